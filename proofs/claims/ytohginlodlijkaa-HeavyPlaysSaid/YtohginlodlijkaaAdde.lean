/- heavy.Add's answers where it takes nothing. Conditions: the total is no more than 2^52. -/
import Derived.Test.YtohginlodlijkaaAdd
namespace Go.Proofs.Ytohginlodlijkaa.PH
open Go.RowKit Go.Maps Go.Proofs.YtohginlodlijkaaW.PrintWords Go.Proofs.YtohginlodlijkaaW.PrintLast Go.Proofs.YtohginlodlijkaaW.PrintMore

/-- Which error it is. -/
def addE (key wt : Int) : Int := if wt = 0 then 1 else if ¬ key < 2305843009213693951 then 7 else 5
set_option maxHeartbeats 4000000 in
set_option maxRecDepth 100000 in
theorem add_err (K T key wt : Int) (v : Value) (w : World) (hv : ∃ A n c, v = .slice A n c) (hT : 0 ≤ T) (hT1 : T ≤ 4503599627370496) (hw0 : 0 ≤ wt) (hw1 : wt < 18446744073709551616)
    (hbad : ¬ (key < 2305843009213693951 ∧ 1 ≤ wt ∧ T + wt ≤ 4503599627370496)) :
    Calls Try.prog 28 #[.agg #[.int .i64 K, .int .u64 T, v], .int .u64 key, .int .u64 wt] w fun e w' => e = .returned (.tuple #[.agg #[.int .i64 0, .int .u64 0, .slice none 0 0], .int .i64 (addE key wt)]) ∧ Below w.heap.size w w' := by
  obtain ⟨A, n, c, rfl⟩ := hv
  unfold addE
  have HB0 := Aside0.mk (((Below.refl _ w).alloc (Nat.le_refl _) (.cells #[.int .i64 K, .int .u64 T, .slice A n c] 33)).alloc (by simp) (.cells #[.int .i64 0, .int .u64 0, .slice none 0 0] 33))
  have HZ : Aside0 (((w.alloc (.cells #[.int .i64 K, .int .u64 T, .slice A n c] 33)).alloc (.cells #[.int .i64 0, .int .u64 0, .slice none 0 0] 33)).heap[w.heap.size + 1]? = some (.cells #[.int .i64 0, .int .u64 0, .slice none 0 0] 33 (0, 0))) := ⟨by have := World.alloc_heap_new (w.alloc (.cells #[.int .i64 K, .int .u64 T, .slice A n c] 33)) (.cells #[.int .i64 0, .int .u64 0, .slice none 0 0] 33); rwa [World.size_alloc] at this⟩
  by_cases h0 : wt = 0
  · subst h0
    go_enter Try.func28, Try.ntmps28
    go_wp2
    refine bodyPost_ret (results_ct rfl _ _ (w.heap.size + 1) 33 #[.int .i64 0, .int .u64 0, .slice none 0 0] (0, 0) _ rfl HZ.out Try.underlying33 rfl (by kernel_rfl)) rfl ?_
    exact ⟨rfl, HB0.out⟩
  · rw [if_neg h0]
    by_cases h1 : key < 2305843009213693951
    · rw [if_neg (by omega)]
      have e0 : decide (key < 2305843009213693951) = true := by simpa using h1
      have h2 : 4503599627370496 - T < wt := by omega
      go_enter Try.func28, Try.ntmps28
      go_wp2_with (go_at_call 51; refine (hkey_calls _ _).mono ?_; rintro e w1 ⟨rfl, rfl⟩; rw [e0])
      refine bodyPost_ret (results_ct rfl _ _ (w.heap.size + 1) 33 #[.int .i64 0, .int .u64 0, .slice none 0 0] (0, 0) _ rfl HZ.out Try.underlying33 rfl (by kernel_rfl)) rfl ?_
      exact ⟨rfl, HB0.out⟩
    · rw [if_pos h1]
      have e0 : decide (key < 2305843009213693951) = false := by simpa using h1
      go_enter Try.func28, Try.ntmps28
      go_wp2_with (go_at_call 51; refine (hkey_calls _ _).mono ?_; rintro e w1 ⟨rfl, rfl⟩; rw [e0])
      refine bodyPost_ret (results_ct rfl _ _ (w.heap.size + 1) 33 #[.int .i64 0, .int .u64 0, .slice none 0 0] (0, 0) _ rfl HZ.out Try.underlying33 rfl (by kernel_rfl)) rfl ?_
      exact ⟨rfl, HB0.out⟩
end Go.Proofs.Ytohginlodlijkaa.PH
