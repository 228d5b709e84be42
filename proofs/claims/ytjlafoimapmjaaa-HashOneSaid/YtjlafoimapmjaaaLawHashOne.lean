/- HashOne: two seeds that make the same rests of two unlike keys are the same. No conditions. -/
import Derived.Test.YtjlafoimapmjaaaRows
import Derived.Test.YtjlafoimapmjaaaOpens
import Derived.Test.YtjlafoimapmjaaaHashp
import Derived.WalkKit
import Derived.ProofKit
import Derived.OpenShut
import Derived.ShutString
import Derived.ChangeOld
import Derived.Below
import Derived.SizedLaws
import Derived.JoinedOf
namespace Go.Proofs.Ytjlafoimapmjaaa.hashOne
open Go.ChangeShapes Go.WideShapes Go.ChangeAt Go.RowKit
open Go.ChangeMaps (open_string shut_string)
open Go.Proofs.Ytjlafoimapmjaaa.Open
set_option linter.unusedVariables false
theorem own : ownKnob Try.prog.godebug = none := by kernel_rfl
theorem laidOut : laidOutB Try.prog = true := by kernel_rfl
/-- A seed is read as two numbers. -/
theorem opensSeed : Opens Try.prog 30 PA.k30 (fun s => (Lit.int .u64 s.f0).wf = true ∧ (Lit.int .u64 s.f1).wf = true) :=
  opens_iso (fun x : PA.S30 => (x.f0, x.f1)) (fun a => ⟨a.1, a.2⟩) (fun _ => rfl) (opens_struct2 Try.underlying30 (opens_int Try.underlying22) (opens_int Try.underlying22) rfl (by kernel_rfl) rfl (by kernel_rfl) (by kernel_rfl))
set_option maxRecDepth 100000 in
theorem lifted (os : Os) (started : os.Started) (H : Type) (enc : TypeId × Value → H) :
    ReturnsInHanded {} Try.checked os 12 .any (Rows.hashOneSpec.pre6 enc Try.prog Try.f12 Rows.hashOneRow.domain false) (Rows.hashOneSpec.post enc Try.prog Try.f12 false true false false) := by
  refine returnsInHanded_of_change (C := Try.checked) own started (by kernel_rfl) Try.func12
    (ChangeSpec.witness6 (enc := enc) (C := Try.checked) false ⟨#[], #[.agg #[.int .u64 0, .int .u64 0], .agg #[.int .u64 0, .int .u64 0], .agg #[.int .u64 0, .int .u64 0]], []⟩ 8 (by kernel_rfl) (by kernel_rfl) (by kernel_rfl) (by kernel_rfl)) ?_
  intro W base args ds gs before hval0 hW hcnd _
  have hval : ∀ (j : Nat) t v, Try.f12.params[j]? = some t → args[j]? = some v → Value.okWide Try.prog W .any base t v := hval0
  have hW' := hW
  obtain ⟨p, q, hA0, hV, rfl, hfz, hnd⟩ := hW
  have hA : DataW.TrodAll enc Try.prog W 0 (fun _ => true) true Try.f12.params.toList args.toList ds p := hA0
  rw [Try.params12] at hA hval
  obtain ⟨v0, vs0, d0, ds0, p0, q0, hargs, rfl, rfl, h0, r0⟩ := trodAll_cons hA
  obtain ⟨v1, vs1, d1, ds1, p1, q1, rfl, rfl, rfl, h1, r1⟩ := trodAll_cons r0
  obtain ⟨v2, vs2, d2, ds2, p2, q2, rfl, rfl, rfl, h2, r2⟩ := trodAll_cons r1
  obtain ⟨rfl, rfl, rfl⟩ := trodAll_nil r2
  obtain rfl : args = #[v0, v1, v2] := by cases args; simp_all
  obtain ⟨rfl, rfl⟩ := trodVars_none hV
  have k0 := h0
  obtain ⟨cs0, s, rfl, hK0, ok0⟩ := arg_struct Try.underlying30 opensSeed (hval 0 30 v0 rfl rfl) h0
  obtain rfl := PA.k30_open hK0
  have k1 := h1
  obtain ⟨cs1, u, rfl, hK1, ok1⟩ := arg_struct Try.underlying30 opensSeed (hval 1 30 v1 rfl rfl) h1
  obtain rfl := PA.k30_open hK1
  have k2 := h2
  obtain ⟨x0, x1, rfl, w_x0, w_x1⟩ := arg_two Try.underlying41 Try.underlying22 (hval 2 41 v2 rfl rfl) h2 (by kernel_rfl) (by kernel_rfl)
  clear hA0 hval0
  refine (PA.skylightlaw04_HashOne.calls 200 s.f0 s.f1 u.f0 u.f1 x0 x1 true W (Pure.HashOne_pure s.f0 s.f1 u.f0 u.f1 x0 x1 ok0.1 ok0.2 ok1.1 ok1.2 w_x0 w_x1)).mono fun e W' ⟨he, bel⟩ => ?_
  subst he
  exact ⟨_, rfl, _, _, _, [], _, [], hW', trodAll_mk1 (shut_bool Try.underlying4 _), (trodAll_cons_mk (Below.trod laidOut (by kernel_rfl) (of_decide_eq_true (by kernel_rfl)) k0 bel (trod_lt k0)) (trodAll_cons_mk (Below.trod laidOut (by kernel_rfl) (of_decide_eq_true (by kernel_rfl)) k1 bel (trod_lt k1)) (trodAll_cons_mk (Below.trod laidOut (by kernel_rfl) (of_decide_eq_true (by kernel_rfl)) k2 bel (trod_lt k2)) trodAll_mk0))), rfl, bel.frame _, fun h => by cases h⟩
theorem over : Rows.hashOneRow.holds Try.pinned (OpenSpec.ofChange Rows.hashOneSpec) :=
  OpenClaim.holds_of_wide 12 Try.f12 rfl rfl rfl rfl rfl rfl rfl ⟨rfl, rfl, rfl, rfl, rfl⟩ rfl rfl rfl rfl rfl (by kernel_rfl) Try.func12 (by kernel_rfl)
    (of_decide_eq_true (by kernel_rfl)) (by unfold Func.isWrapper; first | (rw [if_pos (by decide +kernel)]; kernel_rfl) | (rw [if_neg (by decide +kernel)]; exact ⟨rfl, rfl⟩))
    (fun os started H enc _ => lifted os started H enc)
end Go.Proofs.Ytjlafoimapmjaaa.hashOne
namespace Go.Proofs.Ytjlafoimapmjaaa
theorem hashOne_holds : Rows.HashOneSaid := hashOne.over
#print axioms hashOne_holds
end Go.Proofs.Ytjlafoimapmjaaa
