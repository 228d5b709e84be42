/- Arguments of the Join laws, read as lists: arrays of three and of four lists of items. -/
import Derived.Test.YtohginlodlijkaaOpens
import Derived.Test.YtohginlodlijkaaPHx0
namespace Go.Proofs.Ytohginlodlijkaa.Open
open Go.RowKit Go.ChangeShapes Go.WideShapes Go.Deep Go.Proofs.YtohginlodlijkaaW.PrintWords
def okItem (s : PH.S51) : Prop := (Lit.int .u64 s.f0).wf = true ∧ (Lit.int .u64 s.f1).wf = true
/-- An item is read as two numbers. -/
theorem opensItem : Opens Try.prog 51 PH.k51 okItem :=
  opens_iso (fun x : PH.S51 => (x.f0, x.f1)) (fun a => ⟨a.1, a.2⟩) (fun _ => rfl) (opens_struct2 Try.underlying51 (opens_int Try.underlying27) (opens_int Try.underlying27) rfl (by kernel_rfl) rfl (by kernel_rfl) (by kernel_rfl))
theorem opensItems : Opens Try.prog 28 (Kd.slice 51 PH.k51) (fun xs => ∀ a ∈ xs, okItem a) := opens_slice Try.underlying28 opensItem (by kernel_rfl)
theorem okItem_range {l : List PH.S51} (ok : ∀ s ∈ l, okItem s) : ∀ t ∈ l, 0 ≤ t.f0 ∧ 0 ≤ t.f1 ∧ t.f1 < 18446744073709551616 := fun t ht => by
  obtain ⟨h0, h1⟩ := ok t ht
  simp [Lit.wf, IntKind.min, IntKind.max, IntKind.signed, IntKind.bits] at h0 h1
  omega
/-- A list of items at a place of an array. -/
structure ItemsAt (w : World) (A : Option Addr) (c : Nat) (l : List PH.S51) : Prop where
  cap : l.length ≤ c
  at' : Kd.C PH.k51 w A l.length l
  ok : ∀ t ∈ l, 0 ≤ t.f0 ∧ 0 ≤ t.f1 ∧ t.f1 < 18446744073709551616
theorem items_at {w : World} {c0 : Value} {l : List PH.S51} (h : (Kd.slice 51 PH.k51).K w l [c0]) (ok : ∀ s ∈ l, okItem s) : ∃ A c, c0 = .slice A l.length c ∧ ItemsAt w A c l := by
  obtain ⟨A, c, e1, hl, hC⟩ := h
  simp at e1
  exact ⟨A, c, e1, hl, hC, okItem_range ok⟩
section
variable {H : Type} {enc : TypeId × Value → H} {w : World} {base : Nat} {spare : Nat → Bool} {held : Bool} {t : TypeId} {r : Reach} {b0 : Nat} {v : Value} {x : DataW H} {p : List MemPlace}
set_option maxRecDepth 100000 in
theorem arg_lists3 (ht : Try.prog.underlying t = some (.array 3 28)) (hv : Value.okWide Try.prog w r b0 t v) (h : DataW.Trod enc Try.prog w base spare held t v x p) (hC : Try.prog.cellsOf t = 3) :
    ∃ A0 c0 l0 A1 c1 l1 A2 c2 l2, v = .agg #[.slice A0 (List.length l0) c0, .slice A1 (List.length l1) c1, .slice A2 (List.length l2) c2] ∧ ItemsAt w A0 c0 l0 ∧ ItemsAt w A1 c1 l1 ∧ ItemsAt w A2 c2 l2 := by
  obtain ⟨cs, rfl, hl, hat⟩ := arg_array ht opensItems hv h (by kernel_rfl) hC
  obtain ⟨l0, x0, e0, g0, w0⟩ := hat 0 (by decide)
  obtain ⟨l1, x1, e1, g1, w1⟩ := hat 1 (by decide)
  obtain ⟨l2, x2, e2, g2, w2⟩ := hat 2 (by decide)
  obtain ⟨A0, c0, rfl, i0⟩ := items_at g0 w0
  obtain ⟨A1, c1, rfl, i1⟩ := items_at g1 w1
  obtain ⟨A2, c2, rfl, i2⟩ := items_at g2 w2
  refine ⟨A0, c0, l0, A1, c1, l1, A2, c2, l2, ?_, i0, i1, i2⟩
  have : cs = [.slice A0 l0.length c0, .slice A1 l1.length c1, .slice A2 l2.length c2] := by
    apply List.ext_getElem?
    intro i
    match i with
    | 0 => exact e0
    | 1 => exact e1
    | 2 => exact e2
    | i + 3 => rw [List.getElem?_eq_none (by omega)]; rfl
  rw [this]
set_option maxRecDepth 100000 in
theorem arg_lists4 (ht : Try.prog.underlying t = some (.array 4 28)) (hv : Value.okWide Try.prog w r b0 t v) (h : DataW.Trod enc Try.prog w base spare held t v x p) (hC : Try.prog.cellsOf t = 4) :
    ∃ A0 c0 l0 A1 c1 l1 A2 c2 l2 A3 c3 l3, v = .agg #[.slice A0 (List.length l0) c0, .slice A1 (List.length l1) c1, .slice A2 (List.length l2) c2, .slice A3 (List.length l3) c3] ∧ ItemsAt w A0 c0 l0 ∧ ItemsAt w A1 c1 l1 ∧ ItemsAt w A2 c2 l2 ∧ ItemsAt w A3 c3 l3 := by
  obtain ⟨cs, rfl, hl, hat⟩ := arg_array ht opensItems hv h (by kernel_rfl) hC
  obtain ⟨l0, x0, e0, g0, w0⟩ := hat 0 (by decide)
  obtain ⟨l1, x1, e1, g1, w1⟩ := hat 1 (by decide)
  obtain ⟨l2, x2, e2, g2, w2⟩ := hat 2 (by decide)
  obtain ⟨l3, x3, e3, g3, w3⟩ := hat 3 (by decide)
  obtain ⟨A0, c0, rfl, i0⟩ := items_at g0 w0
  obtain ⟨A1, c1, rfl, i1⟩ := items_at g1 w1
  obtain ⟨A2, c2, rfl, i2⟩ := items_at g2 w2
  obtain ⟨A3, c3, rfl, i3⟩ := items_at g3 w3
  refine ⟨A0, c0, l0, A1, c1, l1, A2, c2, l2, A3, c3, l3, ?_, i0, i1, i2, i3⟩
  have : cs = [.slice A0 l0.length c0, .slice A1 l1.length c1, .slice A2 l2.length c2, .slice A3 l3.length c3] := by
    apply List.ext_getElem?
    intro i
    match i with
    | 0 => exact e0
    | 1 => exact e1
    | 2 => exact e2
    | 3 => exact e3
    | i + 4 => rw [List.getElem?_eq_none (by omega)]; rfl
  rw [this]
end
end Go.Proofs.Ytohginlodlijkaa.Open
