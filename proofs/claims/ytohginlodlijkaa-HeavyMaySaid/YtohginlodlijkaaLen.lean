/- bits.Len at small numbers: it hands back some number. slices.Sort of at most 12 numbers is the insertion's sorting. -/
import Derived.Lib.Tables
import Derived.Test.YtohginlodlijkaaPHs
namespace Go.Proofs.Ytohginlodlijkaa.PH
open Go.RowKit Go.Proofs.YtohginlodlijkaaW.PrintWords Go.Proofs.YtohginlodlijkaaW.PrintLast Go.Proofs.YtohginlodlijkaaW.PrintMore
set_option maxHeartbeats 4000000 in
set_option maxRecDepth 100000 in
theorem len64_calls (x : Int) (h0 : 0 ≤ x) (h1 : x ≤ 12) (w : World) : Calls Try.prog 83 #[.int .u64 x] w fun e w' => (∃ r, e = .returned (.int .i64 r)) ∧ w' = w := by
  go_enter Try.func83, Try.ntmps83
  have hx : x.toNat < 256 := by omega
  go_wp2
  go_ret
  exact ⟨⟨_, rfl⟩, rfl⟩
set_option maxHeartbeats 4000000 in
set_option maxRecDepth 100000 in
theorem len_calls (x : Int) (h0 : 0 ≤ x) (h1 : x ≤ 12) (w : World) : Calls Try.prog 65 #[.int .u64 x] w fun e w' => (∃ r, e = .returned (.int .i64 r)) ∧ w' = w := by
  go_enter Try.func65, Try.ntmps65
  go_wp2_with (go_at_call 83; refine (len64_calls x h0 h1 _).mono ?_; rintro e w' ⟨⟨r, rfl⟩, rfl⟩)
  go_ret
  exact ⟨⟨_, rfl⟩, rfl⟩

set_option maxHeartbeats 4000000 in
set_option maxRecDepth 100000 in
theorem pdq_calls (A : Option Addr) (cap : Nat) (l0 r : List Int) (lim : Int) (w0 w : World) (hB : Below w0.heap.size w0 w) (ho0 : Kd.R (Kd.int .u64) 27 w w0.heap.size (fun _ => True) (.slice A l0.length cap) l0) (hl : l0.length ≤ 12) (h : slices_insertionSortOrdered_uint64.f 1000 l0 0 l0.length = some r) :
    Calls Try.prog 64 #[.slice A l0.length cap, .int .i64 0, .int .i64 l0.length, .int .i64 lim] w fun e w' => e = .returned (.tuple #[]) ∧ Kd.R (Kd.int .u64) 27 w' w0.heap.size (fun _ => True) (.slice A l0.length cap) r ∧ Below w0.heap.size w0 w' := by
  have HS := Aside0.mk (slices_insertionSortOrdered_uint64.calls 1000 (fun _ => True) (.slice A l0.length cap) l0 0 l0.length r w0 w hB ho0 h)
  clear hB ho0 h
  go_enter Try.func64, Try.ntmps64
  go_wp2
  refine wp_loop_rounds 1 ?_
  rw [rounds_succ]
  go_wp2_with (go_at_call 73; refine HS.out.mono ?_; rintro e w' ⟨rfl, hr, hb, _⟩)
  refine bodyPost_ret (results_none rfl _ _ _) rfl ?_
  exact ⟨rfl, Kd.R_mono hr (fun _ _ => trivial), hb⟩

set_option maxHeartbeats 4000000 in
set_option maxRecDepth 100000 in
theorem sort_calls (A : Option Addr) (cap : Nat) (l0 r : List Int) (w0 w : World) (hB : Below w0.heap.size w0 w) (ho0 : Kd.R (Kd.int .u64) 27 w w0.heap.size (fun _ => True) (.slice A l0.length cap) l0) (hl : l0.length ≤ 12) (h : slices_insertionSortOrdered_uint64.f 1000 l0 0 l0.length = some r) :
    Calls Try.prog 38 #[.slice A l0.length cap] w fun e w' => e = .returned (.tuple #[]) ∧ Kd.R (Kd.int .u64) 27 w' w0.heap.size (fun _ => True) (.slice A l0.length cap) r ∧ Below w0.heap.size w0 w' := by
  have HS := Aside0.mk (fun lim => pdq_calls A cap l0 r lim w0 w hB ho0 hl h)
  clear hB ho0 h
  go_enter Try.func38, Try.ntmps38
  go_wp2_with (first
    | (go_at_call 65; refine (len_calls _ (by omega) (by omega) _).mono ?_; rintro e w1 ⟨⟨lim, rfl⟩, rfl⟩)
    | (go_at_call 64; refine (HS.out _).mono ?_; rintro e w2 ⟨rfl, hr, hb⟩))
  go_end0
  exact ⟨rfl, Kd.R_mono hr (fun _ _ => trivial), hb⟩
end Go.Proofs.Ytohginlodlijkaa.PH
