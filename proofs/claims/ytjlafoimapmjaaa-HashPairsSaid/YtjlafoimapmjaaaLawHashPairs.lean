/- HashPairs: of two unlike keys, and any two unlike rests, there is a seed that makes these of them. No conditions. -/
import Derived.Test.YtjlafoimapmjaaaRows
import Derived.Test.YtjlafoimapmjaaaOpens
import Derived.Test.YtjlafoimapmjaaaHashp
import Derived.WalkKit
import Derived.ProofKit
import Derived.OpenShut
import Derived.ShutString
import Derived.ChangeOld
import Derived.Below
import Derived.SizedLaws
import Derived.JoinedOf
namespace Go.Proofs.Ytjlafoimapmjaaa.hashPairs
open Go.ChangeShapes Go.WideShapes Go.ChangeAt Go.RowKit
open Go.ChangeMaps (open_string shut_string)
open Go.Proofs.Ytjlafoimapmjaaa.Open
set_option linter.unusedVariables false
theorem own : ownKnob Try.prog.godebug = none := by kernel_rfl
theorem laidOut : laidOutB Try.prog = true := by kernel_rfl
/-- A seed is read as two numbers. -/
theorem opensSeed : Opens Try.prog 30 PA.k30 (fun s => (Lit.int .u64 s.f0).wf = true ∧ (Lit.int .u64 s.f1).wf = true) :=
  opens_iso (fun x : PA.S30 => (x.f0, x.f1)) (fun a => ⟨a.1, a.2⟩) (fun _ => rfl) (opens_struct2 Try.underlying30 (opens_int Try.underlying22) (opens_int Try.underlying22) rfl (by kernel_rfl) rfl (by kernel_rfl) (by kernel_rfl))
set_option maxRecDepth 100000 in
theorem lifted (os : Os) (started : os.Started) (H : Type) (enc : TypeId × Value → H) :
    ReturnsInHanded {} Try.checked os 11 .any (Rows.hashPairsSpec.pre6 enc Try.prog Try.f11 Rows.hashPairsRow.domain false) (Rows.hashPairsSpec.post enc Try.prog Try.f11 false true false false) := by
  refine returnsInHanded_of_change (C := Try.checked) own started (by kernel_rfl) Try.func11
    (ChangeSpec.witness6 (enc := enc) (C := Try.checked) false ⟨#[], #[.agg #[.int .u64 0, .int .u64 0], .agg #[.int .u64 0, .int .u64 0]], []⟩ 8 (by kernel_rfl) (by kernel_rfl) (by kernel_rfl) (by kernel_rfl)) ?_
  intro W base args ds gs before hval0 hW hcnd _
  have hval : ∀ (j : Nat) t v, Try.f11.params[j]? = some t → args[j]? = some v → Value.okWide Try.prog W .any base t v := hval0
  have hW' := hW
  obtain ⟨p, q, hA0, hV, rfl, hfz, hnd⟩ := hW
  have hA : DataW.TrodAll enc Try.prog W 0 (fun _ => true) true Try.f11.params.toList args.toList ds p := hA0
  rw [Try.params11] at hA hval
  obtain ⟨v0, vs0, d0, ds0, p0, q0, hargs, rfl, rfl, h0, r0⟩ := trodAll_cons hA
  obtain ⟨v1, vs1, d1, ds1, p1, q1, rfl, rfl, rfl, h1, r1⟩ := trodAll_cons r0
  obtain ⟨rfl, rfl, rfl⟩ := trodAll_nil r1
  obtain rfl : args = #[v0, v1] := by cases args; simp_all
  obtain ⟨rfl, rfl⟩ := trodVars_none hV
  have k0 := h0
  obtain ⟨x0, x1, rfl, w_x0, w_x1⟩ := arg_two Try.underlying41 Try.underlying22 (hval 0 41 v0 rfl rfl) h0 (by kernel_rfl) (by kernel_rfl)
  have k1 := h1
  obtain ⟨y0, y1, rfl, w_y0, w_y1⟩ := arg_two Try.underlying41 Try.underlying22 (hval 1 41 v1 rfl rfl) h1 (by kernel_rfl) (by kernel_rfl)
  clear hA0 hval0
  refine (PA.skylightlaw04_HashPairs.calls 201 x0 x1 y0 y1 true W (Pure.HashPairs_pure x0 x1 y0 y1 w_x0 w_x1 w_y0 w_y1)).mono fun e W' ⟨he, bel⟩ => ?_
  subst he
  exact ⟨_, rfl, _, _, _, [], _, [], hW', trodAll_mk1 (shut_bool Try.underlying4 _), (trodAll_cons_mk (Below.trod laidOut (by kernel_rfl) (of_decide_eq_true (by kernel_rfl)) k0 bel (trod_lt k0)) (trodAll_cons_mk (Below.trod laidOut (by kernel_rfl) (of_decide_eq_true (by kernel_rfl)) k1 bel (trod_lt k1)) trodAll_mk0)), rfl, bel.frame _, fun h => by cases h⟩
theorem over : Rows.hashPairsRow.holds Try.pinned (OpenSpec.ofChange Rows.hashPairsSpec) :=
  OpenClaim.holds_of_wide 11 Try.f11 rfl rfl rfl rfl rfl rfl rfl ⟨rfl, rfl, rfl, rfl, rfl⟩ rfl rfl rfl rfl rfl (by kernel_rfl) Try.func11 (by kernel_rfl)
    (of_decide_eq_true (by kernel_rfl)) (by unfold Func.isWrapper; first | (rw [if_pos (by decide +kernel)]; kernel_rfl) | (rw [if_neg (by decide +kernel)]; exact ⟨rfl, rfl⟩))
    (fun os started H enc _ => lifted os started H enc)
end Go.Proofs.Ytjlafoimapmjaaa.hashPairs
namespace Go.Proofs.Ytjlafoimapmjaaa
theorem hashPairs_holds : Rows.HashPairsSaid := hashPairs.over
#print axioms hashPairs_holds
end Go.Proofs.Ytjlafoimapmjaaa
