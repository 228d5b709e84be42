/- A row of uint64 that is sorted in place: what its cells hold, and what else stays; cmp.Less. And more: see each part's head. -/
import Derived.Sort.AssemblyPlain
import Derived.Sort.Row
import Derived.WalkKit
import Derived.BigGuard
import Derived.BigCall
import Derived.CellFam
import Derived.Below
import Derived.Deep.Draws
import Derived.Deep.QuietTactic
import Derived.BigQuiet
import Derived.Deep.CutBlock
import Derived.Deep.DeepCutAuto
import Derived.RangeFuncRecord
import Derived.Lib.Tables
import Derived.Laws.BitsAllLaws
import Derived.Test.YtohginlodlijkaaProg
import Derived.Test.YtohginlodlijkaaWMore
/-! A row of uint64 that is sorted in place: what its cells hold, and what else stays; cmp.Less. -/
namespace Go.Proofs.Ytohginlodlijkaa.So
open Go.RowKit Go.Sort
/-- A hypothesis that no tactic looks into. -/
structure Sh (p : Prop) : Prop where
  out : p
def toI : Value → Int | .int _ q => q | _ => 0
/-- Block g holds cap cells of type uint64; from place off on they are d. -/
def Row (g off cap : Nat) (d : Array Int) (w : World) : Prop := ∃ cur : Array Value, w.heap[g]? = some (.cells cur 27 (0, 0)) ∧ cur.size = cap ∧ ∀ t, t < d.size → cur[off + t]? = some (.int .u64 d[t]!)
/-- Of what was there nothing but block g has turned. -/
structure Kp (g : Nat) (w w' : World) : Prop where
  os : w'.os = w.os
  tape : w'.tape = w.tape
  output : w'.output = w.output
  size : w.heap.size ≤ w'.heap.size
  rest : ∀ k, k < w.heap.size → k ≠ g → w'.heap[k]? = w.heap[k]?
theorem Kp.refl (g : Nat) (w : World) : Kp g w w := ⟨rfl, rfl, rfl, Nat.le_refl _, fun _ _ _ => rfl⟩
theorem Kp.trans {g : Nat} {a b c : World} (h : Kp g a b) (k : Kp g b c) : Kp g a c :=
  ⟨k.os.trans h.os, k.tape.trans h.tape, k.output.trans h.output, Nat.le_trans h.size k.size, fun i hi hg => (k.rest i (Nat.lt_of_lt_of_le hi h.size) hg).trans (h.rest i hi hg)⟩
theorem Kp.drewN {g : Nat} {a w : World} (h : Kp g a w) (n : Nat) : Kp g a (w.drewN n) := ⟨h.os, h.tape, h.output, h.size, h.rest⟩
theorem Kp.alloc {g : Nat} {a w : World} (h : Kp g a w) (o : Obj) : Kp g a (w.alloc o) :=
  ⟨h.os, h.tape, h.output, Nat.le_trans h.size (by simp), fun i hi hg => (Below.heap_alloc w o i (Nat.lt_of_lt_of_le hi h.size)).trans (h.rest i hi hg)⟩
theorem Kp.set {g b : Nat} {a w : World} (h : Kp g a w) (hb : b = g ∨ a.heap.size ≤ b) (i : Nat) (v : Value) : Kp g a (w.setCell ⟨b, i, none⟩ v) :=
  ⟨h.os, h.tape, h.output, Nat.le_trans h.size (by simp [World.setCell]), fun k hk hg => (Below.heap_setCell w ⟨b, i, none⟩ v k (by rcases hb with rfl | hb; exact hg; simp only []; omega)).trans (h.rest k hk hg)⟩
theorem Row.cell {g off cap : Nat} {d : Array Int} {w : World} (h : Row g off cap d w) {t : Nat} (ht : t < d.size) : w.cell? ⟨g, off + t, none⟩ = some (.int .u64 d[t]!) := by
  obtain ⟨cur, h1, _, h3⟩ := h
  simp only [World.cell?, h1]
  exact h3 t ht
theorem Row.frozen {g off cap : Nat} {d : Array Int} {w : World} (h : Row g off cap d w) (i : Nat) : w.frozen? ⟨g, i, none⟩ = false := by
  obtain ⟨cur, h1, _, _⟩ := h
  simp [World.frozen?, h1]
theorem Row.lt {g off cap : Nat} {d : Array Int} {w : World} (h : Row g off cap d w) : g < w.heap.size := by
  obtain ⟨cur, h1, _, _⟩ := h
  exact (Array.getElem?_eq_some_iff.1 h1).1
theorem Row.kept {g off cap : Nat} {d : Array Int} {w w' : World} (h : Row g off cap d w) (e : w'.heap[g]? = w.heap[g]?) : Row g off cap d w' := by
  obtain ⟨cur, h1, h2⟩ := h
  exact ⟨cur, e.trans h1, h2⟩
theorem Row.drewN {g off cap : Nat} {d : Array Int} {w : World} (h : Row g off cap d w) (n : Nat) : Row g off cap d (w.drewN n) := h
theorem Row.alloc {g off cap : Nat} {d : Array Int} {w : World} (h : Row g off cap d w) (o : Obj) : Row g off cap d (w.alloc o) := h.kept (Below.heap_alloc w o g h.lt)
theorem Row.other {g off cap b i : Nat} {d : Array Int} {w : World} (h : Row g off cap d w) (hb : g ≠ b) (v : Value) : Row g off cap d (w.setCell ⟨b, i, none⟩ v) := h.kept (Below.heap_setCell w ⟨b, i, none⟩ v g hb)
theorem Row.set {g off cap : Nat} {d : Array Int} {w : World} (h : Row g off cap d w) {i : Nat} (hi : i < d.size) (x : Int) : Row g off cap (d.setIfInBounds i x) (w.setCell ⟨g, off + i, none⟩ (.int .u64 x)) := by
  obtain ⟨cur, h1, h2, h3⟩ := h
  refine ⟨cur.setIfInBounds (off + i) (.int .u64 x), ?_, by simpa using h2, fun t ht => ?_⟩
  · simp only [World.setCell, Array.getElem?_modify, h1, if_true, Option.map_some]
    rfl
  · rw [Array.size_setIfInBounds] at ht
    rw [Array.getElem?_setIfInBounds]
    by_cases e : i = t
    · subst e
      have hc : off + i < cur.size := by
        rcases Nat.lt_or_ge (off + i) cur.size with q | q
        · exact q
        · have := h3 i hi; rw [Array.getElem?_eq_none q] at this; cases this
      rw [if_pos rfl, if_pos hc, getElem!_set_same d i x hi]
    · rw [if_neg (by omega), getElem!_set_other d i t x (fun h => e h.symm)]
      exact h3 t ht
/-- The state of a sort that began at w0: the row is d, nothing else has turned. -/
structure St (w0 : World) (g off cap : Nat) (d : Array Int) (w : World) : Prop where
  row : Row g off cap d w
  kp : Kp g w0 w
theorem St.refl {w : World} {g off cap : Nat} {d : Array Int} (h : Row g off cap d w) : St w g off cap d w := ⟨h, Kp.refl g w⟩
theorem St.trans {w0 w w' : World} {g off cap : Nat} {d d' : Array Int} (h : St w0 g off cap d w) (k : St w g off cap d' w') : St w0 g off cap d' w' := ⟨k.row, h.kp.trans k.kp⟩
theorem St.drewN {w0 w : World} {g off cap : Nat} {d : Array Int} (h : St w0 g off cap d w) (n : Nat) : St w0 g off cap d (w.drewN n) := ⟨h.row, h.kp.drewN n⟩
theorem St.swap {w0 w : World} {g off cap : Nat} {d : Array Int} (h : St w0 g off cap d w) (q : Nat) {i j : Nat} (hi : i < d.size) (hj : j < d.size) :
    St w0 g off cap (swp d i j) (((w.drewN q).setCell ⟨g, off + i, none⟩ (.int .u64 d[j]!)).setCell ⟨g, off + j, none⟩ (.int .u64 d[i]!)) :=
  ⟨((h.row.drewN q).set hi _).set (by simpa using hj) _, ((h.kp.drewN q).set (.inl rfl) _ _).set (.inl rfl) _ _⟩
theorem swp_size (d : Array Int) (i j : Nat) : (swp d i j).size = d.size := by simp [swp]
set_option maxHeartbeats 1000000 in
theorem less_calls (x y : Int) (w : World) : Calls Try.prog 79 #[.int .u64 x, .int .u64 y] w fun e w' => e = .returned (.bool (ltInt x y)) ∧ w' = w := by
  have HN : ∀ z : Int, ∀ w : World, Calls Try.prog 72 #[.int .u64 z] w fun e w' => e = .returned (.bool false) ∧ w' = w := by
    intro z w
    go_enter Try.func72, Try.ntmps72
    go_wp2
    go_ret
    exact ⟨by simp, rfl⟩
  have HN' := Sh.mk HN
  clear HN
  go_enter Try.func79, Try.ntmps79
  go_wp2_with (go_at_call 72; refine (HN'.out _ _).mono ?_; rintro e w' ⟨rfl, rfl⟩)
  go_ret
  exact ⟨rfl, rfl⟩
end Go.Proofs.Ytohginlodlijkaa.So

/-! The sort of uint64: insertion, and turning round: the code computes the plain functions. -/
namespace Go.Proofs.Ytohginlodlijkaa.So
open Go.RowKit Go.Sort
section
variable {α : Type} [Inhabited α] (lt : α → α → Bool)
theorem ins_go {a j : Nat} {d : Array α} (hj : a < j) (hl : lt d[j]! d[j - 1]! = true) : insInner lt a j d = insInner lt a (j - 1) (swp d j (j - 1)) := by
  cases j with
  | zero => omega
  | succ k => rw [insInner, if_pos]; rfl; simpa [show k + 1 > a from hj] using hl
theorem ins_stop {a j : Nat} {d : Array α} (h : j ≤ a ∨ lt d[j]! d[j - 1]! = false) : insInner lt a j d = d := by
  cases j with
  | zero => rfl
  | succ k =>
    rw [insInner, if_neg]
    rcases h with h | h
    · simp; omega
    · rw [Nat.add_sub_cancel] at h; simp [h]
theorem out_go {a b i : Nat} {d : Array α} (h : i < b) : insOuter lt a b i d = insOuter lt a b (i + 1) (insInner lt a i d) := by rw [insOuter, if_pos h]
theorem out_stop {a b i : Nat} {d : Array α} (h : ¬ i < b) : insOuter lt a b i d = d := by rw [insOuter, if_neg h]
end
set_option maxHeartbeats 8000000 in
set_option maxRecDepth 100000 in
theorem ins_calls (g off cap c a b : Nat) (d : Array Int) (w : World) (hR : Row g off cap d w) (hb : b ≤ d.size) (hab : a ≤ b) (hsz : d.size < 4611686018427387904) :
    Calls Try.prog 73 #[.slice (some ⟨g, off, none⟩) d.size c, .int .i64 a, .int .i64 b] w fun e w' => e = .returned (.tuple #[]) ∧ St w g off cap (insertionSort ltInt d a b) w' := by
  go_enter Try.func73, Try.ntmps73
  go_wp2
  go_loopw [6] (fun vi wr => ∃ (i : Nat) (dk : Array Int), vi = .int .i64 i ∧ a < i ∧ i ≤ b + 1 ∧ dk.size = d.size ∧ St w g off cap dk wr ∧ insOuter ltInt a b i dk = insertionSort ltInt d a b) (fun vi _ => b + 1 - (toI vi).toNat)
  case atStart => exact ⟨a + 1, d, by go_num, by omega, by omega, rfl, St.refl hR, rfl⟩
  case round =>
    obtain ⟨i, dk, rfl, hai, hib, hsk, hS, hO⟩ := hrel
    have HO := Sh.mk hO
    have HS := Sh.mk hS
    clear hO hS
    go_wp2
    · have hlt : i < b := by assumption
      go_loopw [7] (fun vj wq => ∃ (j : Nat) (dj : Array Int), vj = .int .i64 j ∧ a ≤ j ∧ j ≤ i ∧ dj.size = d.size ∧ St w g off cap dj wq ∧ insInner ltInt a j dj = insInner ltInt a i dk) (fun vj _ => (toI vj).toNat)
      case atStart => exact ⟨i, dk, rfl, by omega, Nat.le_refl _, hsk, HS.out, rfl⟩
      case round =>
        obtain ⟨j, dj, rfl, haj, hji, hsj, hS, hI⟩ := hrel
        obtain ⟨G, hG⟩ : ∃ G : Nat → Int, ∀ t, G t = dj[t]! := ⟨fun t => dj[t]!, fun _ => rfl⟩
        have hcw : ∀ t, t < d.size → wr.cell? ⟨g, off + t, none⟩ = some (.int .u64 (G t)) := fun t ht => by rw [hG]; exact hS.row.cell (by omega)
        have hfw : ∀ t, t < d.size → wr.frozen? ⟨g, off + t, none⟩ = false := fun t _ => hS.row.frozen _
        have HG := Sh.mk hG
        have HI := Sh.mk hI
        have HS := Sh.mk hS
        have OUT := Sh.mk (show (j ≤ a ∨ ltInt dj[j]! dj[j - 1]! = false) → ∀ q, ∃ (i' : Nat) (dk' : Array Int), Value.int .i64 ((i : Int) + 1) = .int .i64 (i' : Nat) ∧ a < i' ∧ i' ≤ b + 1 ∧ dk'.size = d.size ∧ St w g off cap dk' (wr.drewN q) ∧ insOuter ltInt a b i' dk' = insertionSort ltInt d a b from fun hs q =>
          ⟨i + 1, dj, by go_num, by omega, by omega, hsj, hS.drewN q, by rw [← HO.out, out_go _ hlt, ← hI, ins_stop _ hs]⟩)
        clear hG hI hS
        go_wp2
        by_cases hja : a < j
        · go_quiet (first | (go_at_call 79; refine Calls.quiet_of_same (less_calls _ _ _)))
          go_wp2
          · have hl : ltInt (G j) (G (j - 1)) = true := by assumption
            go_region
            all_goals go_wp2
            exact ⟨⟨j - 1, swp dj j (j - 1), by congr 1; omega, by omega, by omega, by rw [swp_size]; exact hsj, by rw [HG.out, HG.out]; exact HS.out.swap (nq + 1) (by omega) (by omega), by rw [← HI.out, ins_go ltInt hja (by rw [← HG.out, ← HG.out]; exact hl)]⟩, by simp [toI]; omega⟩
          · have hl : ltInt (G j) (G (j - 1)) = false := by assumption
            go_roundw
            case rel => exact OUT.out (Or.inr (by rw [← HG.out, ← HG.out]; exact hl)) nq
            case measure => simp [toI]; omega
        · go_quiet (first | (go_at_call 79; refine Calls.quiet_of_same (less_calls _ _ _)))
          go_wp2
          go_roundw
          case rel => exact OUT.out (Or.inl (by omega)) nq
          case measure => simp [toI]; omega
    · go_end0
      exact ⟨rfl, by rw [← HO.out, out_stop _ (by omega)]; exact HS.out⟩
theorem rev_go {i j : Nat} {d : Array Int} (h : i < j) : reverseLoop i j d = reverseLoop (i + 1) (j - 1) (swp d i j) := by rw [reverseLoop, if_pos h]
theorem rev_stop {i j : Nat} {d : Array Int} (h : ¬ i < j) : reverseLoop i j d = d := by rw [reverseLoop, if_neg h]
set_option maxHeartbeats 8000000 in
set_option maxRecDepth 100000 in
theorem rev_calls (g off cap c a b : Nat) (d : Array Int) (w : World) (hR : Row g off cap d w) (hb : b ≤ d.size) (hab : a < b) (hsz : d.size < 4611686018427387904) :
    Calls Try.prog 77 #[.slice (some ⟨g, off, none⟩) d.size c, .int .i64 a, .int .i64 b] w fun e w' => e = .returned (.tuple #[]) ∧ St w g off cap (reverseRange d a b) w' := by
  go_enter Try.func77, Try.ntmps77
  go_wp2
  go_loopw [6, 7] (fun vi vj wr => ∃ (i j : Nat) (dk : Array Int), vi = .int .i64 i ∧ vj = .int .i64 j ∧ i ≤ j + 1 ∧ j < d.size ∧ dk.size = d.size ∧ St w g off cap dk wr ∧ reverseLoop i j dk = reverseRange d a b) (fun _ vj _ => (toI vj).toNat)
  case atStart => exact ⟨a, b - 1, d, rfl, by go_num, by omega, by omega, rfl, St.refl hR, rfl⟩
  case round =>
    obtain ⟨i, j, dk, rfl, rfl, hij, hj, hsk, hS, hO⟩ := hrel
    obtain ⟨G, hG⟩ : ∃ G : Nat → Int, ∀ t, G t = dk[t]! := ⟨fun t => dk[t]!, fun _ => rfl⟩
    have hcw : ∀ t, t < d.size → wr.cell? ⟨g, off + t, none⟩ = some (.int .u64 (G t)) := fun t ht => by rw [hG]; exact hS.row.cell (by omega)
    have hfw : ∀ t, t < d.size → wr.frozen? ⟨g, off + t, none⟩ = false := fun t _ => hS.row.frozen _
    have HG := Sh.mk hG
    have HO := Sh.mk hO
    have HS := Sh.mk hS
    clear hG hO hS
    go_wp2
    · have hlt : i < j := by assumption
      go_region
      all_goals go_wp2
      exact ⟨⟨i + 1, j - 1, swp dk i j, by go_num, by congr 1; omega, by omega, by omega, by rw [swp_size]; exact hsk, by rw [HG.out, HG.out]; exact HS.out.swap 1 (by omega) (by omega), by rw [← HO.out, rev_go hlt]⟩, by simp [toI]; omega⟩
    · go_end0
      exact ⟨rfl, by rw [← HO.out, rev_stop (by omega)]; exact HS.out⟩
end Go.Proofs.Ytohginlodlijkaa.So

/-! The sort of uint64: the heap. -/
namespace Go.Proofs.Ytohginlodlijkaa.So
open Go.RowKit Go.Sort
theorem sift_step {hi F r : Nat} {d : Array Int} (h : 2 * r + 1 < hi) (c : Nat) (hc : c = if 2 * r + 2 < hi ∧ ltInt d[F + (2 * r + 1)]! d[F + (2 * r + 2)]! = true then 2 * r + 2 else 2 * r + 1) :
    siftDown ltInt hi F r d = if ltInt d[F + r]! d[F + c]! = true then siftDown ltInt hi F c (swp d (F + r) (F + c)) else d := by
  rw [siftDown, dif_neg (by omega)]
  by_cases hq : 2 * r + 2 < hi ∧ ltInt d[F + (2 * r + 1)]! d[F + (2 * r + 2)]! = true
  · rw [if_pos hq] at hc
    subst hc
    rw [if_pos (by simpa [Nat.add_assoc] using hq)]
    by_cases h2 : ltInt d[F + r]! d[F + (2 * r + 2)]! = true
    · rw [if_neg (by simp [h2]), dif_pos hq.1, if_pos h2]
    · rw [if_pos (by simpa using h2), if_neg h2]
  · rw [if_neg hq] at hc
    subst hc
    rw [if_neg (by simpa [Nat.add_assoc] using hq)]
    by_cases h2 : ltInt d[F + r]! d[F + (2 * r + 1)]! = true
    · rw [if_neg (by simp [h2]), if_pos h2]
    · rw [if_pos (by simpa using h2), if_neg h2]
theorem nbh0 {b : Bool} (h : (!b) = true) : b = false := by simpa using h
theorem nbh1 {b : Bool} (h : (!b) = false) : b = true := by simpa using h
theorem sift_end {hi F r : Nat} {d : Array Int} (h : hi ≤ 2 * r + 1) : siftDown ltInt hi F r d = d := by rw [siftDown, dif_pos h]
set_option maxHeartbeats 8000000 in
set_option maxRecDepth 100000 in
theorem sift_calls (g off cap c lo hi F : Nat) (d : Array Int) (w : World) (hR : Row g off cap d w) (hb : F + hi ≤ d.size) (hlo : lo ≤ hi) (hsz : d.size < 1152921504606846976) :
    Calls Try.prog 85 #[.slice (some ⟨g, off, none⟩) d.size c, .int .i64 lo, .int .i64 hi, .int .i64 F] w fun e w' => e = .returned (.tuple #[]) ∧ St w g off cap (siftDown ltInt hi F lo d) w' := by
  go_enter Try.func85, Try.ntmps85
  go_wp2
  go_loopw [8] (fun vr wr => ∃ (r : Nat) (dk : Array Int), vr = .int .i64 r ∧ r ≤ hi ∧ dk.size = d.size ∧ St w g off cap dk wr ∧ siftDown ltInt hi F r dk = siftDown ltInt hi F lo d) (fun vr _ => hi - (toI vr).toNat)
  case atStart => exact ⟨lo, d, rfl, hlo, rfl, St.refl hR, rfl⟩
  case round =>
    obtain ⟨r, dk, rfl, hr, hsk, hS, hO⟩ := hrel
    obtain ⟨G, hG⟩ : ∃ G : Nat → Int, ∀ t, G t = dk[t]! := ⟨fun t => dk[t]!, fun _ => rfl⟩
    have hcw : ∀ t, t < d.size → wr.cell? ⟨g, off + t, none⟩ = some (.int .u64 (G t)) := fun t ht => by rw [hG]; exact hS.row.cell (by omega)
    have hfw : ∀ t, t < d.size → wr.frozen? ⟨g, off + t, none⟩ = false := fun t _ => hS.row.frozen _
    have HG := Sh.mk hG
    have HO := Sh.mk hO
    have HS := Sh.mk hS
    clear hG hO hS
    by_cases h1 : 2 * r + 1 < hi
    · have q0 : F + r < d.size := by omega
      have q1 : F + (2 * r + 1) < d.size := by omega
      by_cases h2 : 2 * r + 2 < hi
      · have h2a : 2 * (r : Int) + 2 < (hi : Int) := by omega
        have h2b : 2 * (r : Int) + 1 + 1 < (hi : Int) := by omega
        go_wp2
        go_quiet (first | (go_at_call 79; exact (less_calls _ _ _).mono (fun _ _ h => ⟨h.1, _, h.2⟩)))
        go_wp2
        · have hc : ltInt (G (F + (2 * r + 1))) (G (F + (2 * r + 2))) = true := by assumption
          go_quiet (first | (go_at_call 79; exact (less_calls _ _ _).mono (fun _ _ h => ⟨h.1, _, h.2⟩)))
          go_wp2
          · have hl : ltInt (G (F + r)) (G (F + (2 * r + 2))) = false := nbh0 (by assumption)
            refine bodyPost_ret (results_none rfl _ _ _) rfl ?_
            exact ⟨rfl, by rw [← HO.out, sift_step h1 (2 * r + 2) (by rw [if_pos ⟨h2, by rw [← HG.out, ← HG.out]; exact hc⟩]), if_neg (by rw [← HG.out, ← HG.out, hl]; simp)]; exact (HS.out.drewN _).drewN _⟩
          · have hl : ltInt (G (F + r)) (G (F + (2 * r + 2))) = true := nbh1 (by assumption)
            go_region
            all_goals go_wp2
            have hst : ∀ q, St w g off cap (swp dk (F + r) (F + (2 * r + 2))) (((wr.drewN q).setCell ⟨g, off + (F + r), none⟩ (.int .u64 (G (F + (2 * r + 2))))).setCell ⟨g, off + (F + (2 * r + 2)), none⟩ (.int .u64 (G (F + r)))) := fun q => by rw [HG.out, HG.out]; exact HS.out.swap q (by omega) (by omega)
            exact ⟨⟨2 * r + 2, swp dk (F + r) (F + (2 * r + 2)), by go_num, by omega, by rw [swp_size]; exact hsk, hst _, by rw [← HO.out, sift_step h1 (2 * r + 2) (by rw [if_pos ⟨h2, by rw [← HG.out, ← HG.out]; exact hc⟩]), if_pos (by rw [← HG.out, ← HG.out]; exact hl)]⟩, by simp [toI]; omega⟩
        · have hc : ltInt (G (F + (2 * r + 1))) (G (F + (2 * r + 2))) = false := by assumption
          go_quiet (first | (go_at_call 79; exact (less_calls _ _ _).mono (fun _ _ h => ⟨h.1, _, h.2⟩)))
          go_wp2
          · have hl : ltInt (G (F + r)) (G (F + (2 * r + 1))) = false := nbh0 (by assumption)
            refine bodyPost_ret (results_none rfl _ _ _) rfl ?_
            exact ⟨rfl, by rw [← HO.out, sift_step h1 (2 * r + 1) (by rw [if_neg (fun h => by rw [← HG.out, ← HG.out, hc] at h; cases h.2)]), if_neg (by rw [← HG.out, ← HG.out, hl]; simp)]; exact (HS.out.drewN _).drewN _⟩
          · have hl : ltInt (G (F + r)) (G (F + (2 * r + 1))) = true := nbh1 (by assumption)
            go_region
            all_goals go_wp2
            have hst : ∀ q, St w g off cap (swp dk (F + r) (F + (2 * r + 1))) (((wr.drewN q).setCell ⟨g, off + (F + r), none⟩ (.int .u64 (G (F + (2 * r + 1))))).setCell ⟨g, off + (F + (2 * r + 1)), none⟩ (.int .u64 (G (F + r)))) := fun q => by rw [HG.out, HG.out]; exact HS.out.swap q (by omega) (by omega)
            exact ⟨⟨2 * r + 1, swp dk (F + r) (F + (2 * r + 1)), by go_num, by omega, by rw [swp_size]; exact hsk, hst _, by rw [← HO.out, sift_step h1 (2 * r + 1) (by rw [if_neg (fun h => by rw [← HG.out, ← HG.out, hc] at h; cases h.2)]), if_pos (by rw [← HG.out, ← HG.out]; exact hl)]⟩, by simp [toI]; omega⟩
      · have h2a : decide (2 * (r : Int) + 2 < (hi : Int)) = false := by simp; omega
        have h2b : decide (2 * (r : Int) + 1 + 1 < (hi : Int)) = false := by simp; omega
        go_wp2
        go_quiet (first | (go_at_call 79; exact (less_calls _ _ _).mono (fun _ _ h => ⟨h.1, _, h.2⟩)))
        go_wp2
        go_quiet (first | (go_at_call 79; exact (less_calls _ _ _).mono (fun _ _ h => ⟨h.1, _, h.2⟩)))
        go_wp2
        · have hl : ltInt (G (F + r)) (G (F + (2 * r + 1))) = false := nbh0 (by assumption)
          refine bodyPost_ret (results_none rfl _ _ _) rfl ?_
          exact ⟨rfl, by rw [← HO.out, sift_step h1 (2 * r + 1) (by rw [if_neg (fun h => h2 h.1)]), if_neg (by rw [← HG.out, ← HG.out, hl]; simp)]; first | exact HS.out.drewN _ | exact (HS.out.drewN _).drewN _⟩
        · have hl : ltInt (G (F + r)) (G (F + (2 * r + 1))) = true := nbh1 (by assumption)
          go_region
          all_goals go_wp2
          have hst : ∀ q, St w g off cap (swp dk (F + r) (F + (2 * r + 1))) (((wr.drewN q).setCell ⟨g, off + (F + r), none⟩ (.int .u64 (G (F + (2 * r + 1))))).setCell ⟨g, off + (F + (2 * r + 1)), none⟩ (.int .u64 (G (F + r)))) := fun q => by rw [HG.out, HG.out]; exact HS.out.swap q (by omega) (by omega)
          exact ⟨⟨2 * r + 1, swp dk (F + r) (F + (2 * r + 1)), by go_num, by omega, by rw [swp_size]; exact hsk, hst _, by rw [← HO.out, sift_step h1 (2 * r + 1) (by rw [if_neg (fun h => h2 h.1)]), if_pos (by rw [← HG.out, ← HG.out]; exact hl)]⟩, by simp [toI]; omega⟩
    · go_wp2
      go_end0
      exact ⟨rfl, by rw [← HO.out, sift_end (by omega)]; exact HS.out⟩
theorem sift_size (hi F : Nat) : ∀ (n r : Nat) (d : Array Int), hi - r ≤ n → (siftDown ltInt hi F r d).size = d.size
  | 0, r, d, h => by rw [sift_end (by omega)]
  | n + 1, r, d, h => by
    by_cases h1 : 2 * r + 1 < hi
    · obtain ⟨c, hc⟩ : ∃ c, c = if 2 * r + 2 < hi ∧ ltInt d[F + (2 * r + 1)]! d[F + (2 * r + 2)]! = true then 2 * r + 2 else 2 * r + 1 := ⟨_, rfl⟩
      rw [sift_step h1 c hc]
      have hr : r < c := by rw [hc]; split <;> omega
      split
      · rw [sift_size hi F n _ _ (by omega), swp_size]
      · rfl
    · rw [sift_end (by omega)]
set_option maxHeartbeats 8000000 in
set_option maxRecDepth 100000 in
theorem heap_calls (g off cap c a b n : Nat) (d : Array Int) (w : World) (hR : Row g off cap d w) (hbn : b = a + n) (hb : a + n ≤ d.size) (hn : 0 < n) (hsz : d.size < 1152921504606846976) :
    Calls Try.prog 74 #[.slice (some ⟨g, off, none⟩) d.size c, .int .i64 a, .int .i64 b] w fun e w' => e = .returned (.tuple #[]) ∧ St w g off cap (heapSort ltInt d a b) w' := by
  have hF : heapSort ltInt d a b = heapPop ltInt a n (heapBuild ltInt n a ((n - 1) / 2 + 1) d) := by unfold heapSort; rw [hbn, Nat.add_sub_cancel_left]
  rw [hF]
  clear hF
  have hb1 : a + n ≤ b := by omega
  have hb2 : b ≤ a + n := by omega
  clear hbn
  go_enter Try.func74, Try.ntmps74
  go_wp2
  rw [show (b : Int) - (a : Int) = (n : Int) by omega]
  go_loopw [9] (fun vi wr => ∃ (k : Nat) (dk : Array Int), vi = .int .i64 ((k : Int) - 1) ∧ k ≤ (n - 1) / 2 + 1 ∧ dk.size = d.size ∧ St w g off cap dk wr ∧ heapBuild ltInt n a k dk = heapBuild ltInt n a ((n - 1) / 2 + 1) d) (fun vi _ => (toI vi + 1).toNat)
  case atStart => exact ⟨(n - 1) / 2 + 1, d, by congr 1; omega, by omega, rfl, St.refl hR, rfl⟩
  case round =>
    obtain ⟨k, dk, rfl, hk, hsk, hS, hO⟩ := hrel
    have HO := Sh.mk hO
    have HS := Sh.mk hS
    clear hO hS
    cases k with
    | succ k =>
      rw [show ((k + 1 : Nat) : Int) - 1 = (k : Int) by omega]
      have HC := Sh.mk (sift_calls g off cap c k n a dk wr HS.out.row (by omega) (by omega) (by omega))
      rw [hsk] at HC
      go_wp2_with (go_at_call 85; refine HC.out.mono ?_; rintro e w1 ⟨rfl, hS1⟩)
      go_roundw
      case rel => exact ⟨k, siftDown ltInt n a k dk, by go_num, by omega, by rw [sift_size n a _ _ _ (Nat.le_refl _)]; exact hsk, HS.out.trans hS1, by rw [← HO.out]; rfl⟩
      case measure => first | (simp [toI]; done) | (simp [toI]; omega)
    | zero =>
      rw [show ((0 : Nat) : Int) - 1 = -1 by omega]
      have HB := Sh.mk (show dk = heapBuild ltInt n a ((n - 1) / 2 + 1) d from HO.out)
      go_wp2
      go_loopw [10] (fun vi wq => ∃ (k : Nat) (dj : Array Int), vi = .int .i64 ((k : Int) - 1) ∧ k ≤ n ∧ dj.size = d.size ∧ St w g off cap dj wq ∧ heapPop ltInt a k dj = heapPop ltInt a n dk) (fun vi _ => (toI vi + 1).toNat)
      case atStart => exact ⟨n, dk, rfl, Nat.le_refl _, hsk, HS.out, rfl⟩
      case round =>
        clear HS
        obtain ⟨k, dj, rfl, hk, hsj, hS, hP⟩ := hrel
        have HP := Sh.mk hP
        cases k with
        | succ k =>
          obtain ⟨G, hG⟩ : ∃ G : Nat → Int, ∀ t, G t = dj[t]! := ⟨fun t => dj[t]!, fun _ => rfl⟩
          have hcw : ∀ t, t < d.size → wr.cell? ⟨g, off + t, none⟩ = some (.int .u64 (G t)) := fun t ht => by rw [hG]; exact hS.row.cell (by omega)
          have hfw : ∀ t, t < d.size → wr.frozen? ⟨g, off + t, none⟩ = false := fun t _ => hS.row.frozen _
          have HG := Sh.mk hG
          have HS := Sh.mk hS
          have hC : ∀ W, St w g off cap (swp dj a (a + k)) W → Calls Try.prog 85 #[.slice (some ⟨g, off, none⟩) d.size c, .int .i64 (0 : Nat), .int .i64 k, .int .i64 a] W fun e w' => e = .returned (.tuple #[]) ∧ St w g off cap (siftDown ltInt k a 0 (swp dj a (a + k))) w' := fun W hW => by
            have h := sift_calls g off cap c 0 k a (swp dj a (a + k)) W hW.row (by rw [swp_size]; omega) (Nat.zero_le _) (by rw [swp_size]; omega)
            rw [swp_size, hsj] at h
            exact h.mono (fun _ _ h => ⟨h.1, hW.trans h.2⟩)
          have HC := Sh.mk hC
          clear hC
          have hst : ∀ q, St w g off cap (swp dj a (a + k)) (((wr.drewN q).setCell ⟨g, off + a, none⟩ (.int .u64 (G (a + k)))).setCell ⟨g, off + (a + k), none⟩ (.int .u64 (G a))) := fun q => by rw [hG, hG]; exact hS.swap q (by omega) (by omega)
          have hst1 : k = 0 → St w g off cap (swp dj a (a + k)) (((wr.setCell ⟨g, off + a, none⟩ (.int .u64 (G a))).setCell ⟨g, off + a, none⟩ (.int .u64 (G a))).drew) := fun h => by subst h; rw [hG]; exact (hS.swap 0 (i := a) (j := a + 0) (by omega) (by omega)).drewN 1
          replace hst1 := Sh.mk hst1
          replace hst := Sh.mk hst
          clear hG hS hP
          rw [show ((k + 1 : Nat) : Int) - 1 = (k : Int) by omega]
          by_cases hk0 : k = 0
          · subst hk0
            go_wp2
            go_region
            all_goals go_wp2_with (go_at_call 85; refine (HC.out _ (hst1.out (by trivial))).mono ?_; rintro e w1 ⟨rfl, hS1⟩)
            go_roundw
            case rel => exact ⟨0, _, by go_num, by omega, by rw [sift_size 0 a _ _ _ (Nat.le_refl _), swp_size]; exact hsj, hS1, by rw [← HP.out]; rfl⟩
            case measure => first | (simp [toI]; done) | (simp [toI]; omega)
          · have hk1 : a < a + k := by omega
            go_wp2
            go_region
            all_goals go_wp2_with (go_at_call 85; refine (HC.out _ (hst.out _)).mono ?_; rintro e w1 ⟨rfl, hS1⟩)
            go_roundw
            case rel => exact ⟨k, _, by go_num, by omega, by rw [sift_size k a _ _ _ (Nat.le_refl _), swp_size]; exact hsj, hS1, by rw [← HP.out]; rfl⟩
            case measure => first | (simp [toI]; done) | (simp [toI]; omega)
        | zero =>
          rw [show ((0 : Nat) : Int) - 1 = -1 by omega]
          go_wp2
          go_end0
          exact ⟨rfl, by rw [← HB.out, ← HP.out]; exact hS⟩
end Go.Proofs.Ytohginlodlijkaa.So

/-! The sort of uint64: the partitions. -/
namespace Go.Proofs.Ytohginlodlijkaa.So
open Go.RowKit Go.Sort
theorem up_go {p : Int → Bool} {d : Array Int} {i j : Nat} (h : i ≤ j) (hp : p d[i]! = true) : scanUp p d j i = scanUp p d j (i + 1) := by rw [scanUp, if_pos (by simp [h, hp])]
theorem up_end {p : Int → Bool} {d : Array Int} {i j : Nat} (h : j < i ∨ p d[i]! = false) : scanUp p d j i = i := by
  rw [scanUp, if_neg (by rcases h with h | h; · simp; omega
                         · simp [h])]
theorem down_go {p : Int → Bool} {d : Array Int} {i j : Nat} (h : i ≤ j) (h0 : 0 < j) (hp : p d[j]! = true) : scanDown p d i j = scanDown p d i (j - 1) := by
  cases j with
  | zero => omega
  | succ j => rw [scanDown, if_pos (by simp [h, hp])]; rfl
theorem down_end {p : Int → Bool} {d : Array Int} {i j : Nat} (h : j < i ∨ p d[j]! = false) : scanDown p d i j = j := by
  cases j with
  | zero => rfl
  | succ j =>
    rw [scanDown, if_neg (by rcases h with h | h; · simp; omega
                             · simp [h])]
/-- What partition tells, step by step. -/
theorem part_fun (d : Array Int) (a b p : Nat) : ∀ i j, i = scanUp (fun x => ltInt x (swp d a p)[a]!) (swp d a p) (b - 1) (a + 1) → j = scanDown (fun x => !ltInt x (swp d a p)[a]!) (swp d a p) i (b - 1) →
    partition ltInt d a b p = if i > j then (j, true, swp (swp d a p) j a) else ((partLoop ltInt a (i + 1) (j - 1) (swp (swp d a p) i j)).1, false, swp (partLoop ltInt a (i + 1) (j - 1) (swp (swp d a p) i j)).2 (partLoop ltInt a (i + 1) (j - 1) (swp (swp d a p) i j)).1 a) := by
  rintro i j rfl rfl
  rfl
theorem nb0 {b : Bool} (h : (!b) = true) : b = false := by simpa using h
theorem nb1 {b : Bool} (h : (!b) = false) : b = true := by simpa using h
end Go.Proofs.Ytohginlodlijkaa.So

/-! The sort of uint64: the partition (printed by wip/mksort.py). -/
namespace Go.Proofs.Ytohginlodlijkaa.So
open Go.RowKit Go.Sort
set_option maxHeartbeats 16000000 in
set_option maxRecDepth 100000 in
theorem part_calls (g off cap c a b p : Nat) (d : Array Int) (w : World) (hR : Row g off cap d w) (hap : a ≤ p) (hpb : p < b) (hb : b ≤ d.size) (hsz : d.size < 1152921504606846976) :
    Calls Try.prog 81 #[.slice (some ⟨g, off, none⟩) d.size c, .int .i64 a, .int .i64 b, .int .i64 p] w fun e w' => e = .returned (.tuple #[.int .i64 (partition ltInt d a b p).1, .bool (partition ltInt d a b p).2.1]) ∧ St w g off cap (partition ltInt d a b p).2.2 w' := by
  go_enter Try.func81, Try.ntmps81
  have HS := Sh.mk (St.refl hR)
  have hsd : d.size = d.size := rfl
  clear hR
  go_upto_region 1 with (fail)
  go_cut [] (fun wx => St w g off cap (swp d a p) wx)
  case first =>
    obtain ⟨G, hG⟩ : ∃ G : Nat → Int, ∀ t, G t = d[t]! := ⟨fun t => d[t]!, fun _ => rfl⟩
    have hcw := fun t (ht : t < d.size) => HS.out.row.cell (t := t) (by omega)
    have hfw := fun t (_ : t < d.size) => HS.out.row.frozen (off + t)
    have hst := fun q => HS.out.swap q (i := a) (j := p) (by omega) (by omega)
    simp only [← hG] at hcw hst
    replace hst := Sh.mk hst
    clear hG HS
    by_cases hxy : a = p
    · subst hxy
      go_region
      all_goals (go_wp2; go_meet; exact hst.out 1)
    · go_region
      all_goals (go_wp2; go_meet; exact hst.out 1)
  case rest =>
    clear HS
    have HS := Sh.mk hcut
    clear hcut
    have hsk : (swp d a p).size = d.size := swp_size d a p
    have HP := part_fun d a b p
    generalize swp d a p = dk at *
    go_upto_region 2 with (fail)
    go_cut [10, 11] (fun v10 v11 wx => v10 = .int .i64 ((a + 1 : Nat) : Int) ∧ v11 = .int .i64 ((b - 1 : Nat) : Int) ∧ St w g off cap dk wx)
    case first =>
      go_wp2_with fail
      go_meet
      exact ⟨by first | go_num | (congr 1; omega), by first | go_num | (congr 1; omega), HS.out⟩
    case rest =>
      obtain ⟨e1, e2, hS⟩ := hcut
      obtain ⟨i, hi⟩ : ∃ i : Nat, i = a + 1 := ⟨_, rfl⟩
      obtain ⟨j, hj⟩ : ∃ j : Nat, j = b - 1 := ⟨_, rfl⟩
      rw [← hi] at e1 HP
      rw [← hj] at e2 HP
      subst e1
      subst e2
      have hai : a < i := by omega
      have hjb : j < b := by omega
      clear HS
      have HS := Sh.mk hS
      replace HP := Sh.mk HP
      clear hS hi hj
      go_upto_block 0 with (fail)
      go_cut [10] (fun vI wx => vI = .int .i64 ((scanUp (fun x => ltInt x dk[a]!) dk j i : Nat) : Int) ∧ St w g off cap dk wx)
      case first =>
        go_wp2_with fail
        go_loopw [10] (fun vi wr => ∃ k : Nat, vi = .int .i64 k ∧ a < k ∧ scanUp (fun x => ltInt x dk[a]!) dk j k = scanUp (fun x => ltInt x dk[a]!) dk j i ∧ St w g off cap dk wr) (fun vi _ => j + 1 - (toI vi).toNat)
        case atStart => exact ⟨i, rfl, hai, rfl, HS.out⟩
        case round =>
          obtain ⟨k, rfl, hak, hO, hS⟩ := hrel
          obtain ⟨G, hG⟩ : ∃ G : Nat → Int, ∀ t, G t = dk[t]! := ⟨fun t => dk[t]!, fun _ => rfl⟩
          have hcw : ∀ t, t < d.size → wr.cell? ⟨g, off + t, none⟩ = some (.int .u64 (G t)) := fun t ht => by rw [hG]; exact hS.row.cell (by omega)
          have HG := Sh.mk hG
          have HO := Sh.mk hO
          clear HS
          have HS := Sh.mk hS
          clear hG hO hS
          by_cases hkj : k ≤ j
          · have h1 : (k : Int) ≤ (j : Int) := by omega
            go_wp2
            go_quiet (first | (go_at_call 79; exact (less_calls _ _ _).mono (fun _ _ h => ⟨h.1, _, h.2⟩)))
            go_wp2
            · have hl : ltInt (G k) (G a) = true := by assumption
              exact ⟨⟨k + 1, by first | go_num | (congr 1; omega), by omega, by rw [← HO.out]; exact (up_go hkj (by show (ltInt dk[k]! dk[a]!) = true; rw [← HG.out, ← HG.out]; simp [hl])).symm, HS.out.drewN _⟩, by simp [toI]; omega⟩
            · have hl : ltInt (G k) (G a) = false := by assumption
              go_meet
              exact ⟨by rw [← HO.out, up_end (.inr (by show (ltInt dk[k]! dk[a]!) = false; rw [← HG.out, ← HG.out]; simp [hl]))], HS.out.drewN _⟩
          · have h1 : decide ((k : Int) ≤ (j : Int)) = false := by simp; omega
            go_wp2
            go_quiet (first | (go_at_call 79; exact (less_calls _ _ _).mono (fun _ _ h => ⟨h.1, _, h.2⟩)))
            go_wp2
            go_meet
            exact ⟨by rw [← HO.out, up_end (.inl (by omega))], HS.out.drewN _⟩
      case rest =>
        obtain ⟨he, hS⟩ := hcut
        obtain ⟨i2, hi2⟩ : ∃ q : Nat, q = scanUp (fun x => ltInt x dk[a]!) dk j i := ⟨_, rfl⟩
        rw [← hi2] at he
        subst he
        have hii : i ≤ i2 := by rw [hi2]; exact scanUp_ge _ _ _ _
        clear HS
        have HS := Sh.mk hS
        replace hi2 := Sh.mk hi2
        clear hS
        go_upto_block 2 with (fail)
        go_cut [11] (fun vI wx => vI = .int .i64 ((scanDown (fun x => !ltInt x dk[a]!) dk i2 j : Nat) : Int) ∧ St w g off cap dk wx)
        case first =>
          go_wp2_with fail
          go_loopw [11] (fun vi wr => ∃ k : Nat, vi = .int .i64 k ∧ k ≤ j ∧ scanDown (fun x => !ltInt x dk[a]!) dk i2 k = scanDown (fun x => !ltInt x dk[a]!) dk i2 j ∧ St w g off cap dk wr) (fun vi _ => (toI vi).toNat)
          case atStart => exact ⟨j, rfl, Nat.le_refl _, rfl, HS.out⟩
          case round =>
            obtain ⟨k, rfl, hak, hO, hS⟩ := hrel
            obtain ⟨G, hG⟩ : ∃ G : Nat → Int, ∀ t, G t = dk[t]! := ⟨fun t => dk[t]!, fun _ => rfl⟩
            have hcw : ∀ t, t < d.size → wr.cell? ⟨g, off + t, none⟩ = some (.int .u64 (G t)) := fun t ht => by rw [hG]; exact hS.row.cell (by omega)
            have HG := Sh.mk hG
            have HO := Sh.mk hO
            clear HS
            have HS := Sh.mk hS
            clear hG hO hS
            by_cases hkj : i2 ≤ k
            · have h1 : (i2 : Int) ≤ (k : Int) := by omega
              go_wp2
              go_quiet (first | (go_at_call 79; exact (less_calls _ _ _).mono (fun _ _ h => ⟨h.1, _, h.2⟩)))
              go_wp2
              · have hl : ltInt (G k) (G a) = false := nb0 (by assumption)
                exact ⟨⟨k - 1, by first | go_num | (congr 1; omega), by omega, by rw [← HO.out]; exact (down_go hkj (by omega) (by show (!ltInt dk[k]! dk[a]!) = true; rw [← HG.out, ← HG.out]; simp [hl])).symm, HS.out.drewN _⟩, by simp [toI]; omega⟩
              · have hl : ltInt (G k) (G a) = true := nb1 (by assumption)
                go_meet
                exact ⟨by rw [← HO.out, down_end (.inr (by show (!ltInt dk[k]! dk[a]!) = false; rw [← HG.out, ← HG.out]; simp [hl]))], HS.out.drewN _⟩
            · have h1 : decide ((i2 : Int) ≤ (k : Int)) = false := by simp; omega
              go_wp2
              go_quiet (first | (go_at_call 79; exact (less_calls _ _ _).mono (fun _ _ h => ⟨h.1, _, h.2⟩)))
              go_wp2
              go_meet
              exact ⟨by rw [← HO.out, down_end (.inl (by omega))], HS.out.drewN _⟩
        case rest =>
          obtain ⟨he, hS⟩ := hcut
          obtain ⟨j2, hj2⟩ : ∃ q : Nat, q = scanDown (fun x => !ltInt x dk[a]!) dk i2 j := ⟨_, rfl⟩
          rw [← hj2] at he
          subst he
          have hjj : j2 ≤ j := by rw [hj2]; exact scanDown_le _ _ _ _
          clear HS
          have HS := Sh.mk hS
          replace hj2 := Sh.mk hj2
          clear hS
          have hP := HP.out i2 j2 hi2.out hj2.out
          clear HP
          by_cases hgt : j2 < i2
          · have h1 : (j2 : Int) < (i2 : Int) := by omega
            rw [if_pos hgt] at hP
            have HP := Sh.mk hP
            clear hP
            go_upto_region 8 with (fail)
            go_cut [] (fun wx => St w g off cap (swp dk j2 a) wx)
            case first =>
              obtain ⟨G, hG⟩ : ∃ G : Nat → Int, ∀ t, G t = dk[t]! := ⟨fun t => dk[t]!, fun _ => rfl⟩
              have hcw := fun t (ht : t < d.size) => HS.out.row.cell (t := t) (by omega)
              have hfw := fun t (_ : t < d.size) => HS.out.row.frozen (off + t)
              have hst := fun q => HS.out.swap q (i := j2) (j := a) (by omega) (by omega)
              simp only [← hG] at hcw hst
              replace hst := Sh.mk hst
              clear hG HS
              by_cases hxy : j2 = a
              · subst hxy
                go_region
                all_goals (go_wp2; go_meet; exact hst.out 1)
              · go_region
                all_goals (go_wp2; go_meet; exact hst.out 1)
            case rest =>
              clear HS
              have HS := Sh.mk hcut
              clear hcut
              go_wp2
              refine bodyPost_ret (results_tmp2 rfl _ _ _) rfl ?_
              exact ⟨by rw [HP.out]; first | done | rfl, by rw [HP.out]; exact HS.out⟩
          · have h1 : (i2 : Int) ≤ (j2 : Int) := by omega
            rw [if_neg hgt] at hP
            have hsz2 : (swp dk i2 j2).size = d.size := by rw [swp_size]; exact hsk
            obtain ⟨L, hL⟩ : ∃ L, L = partLoop ltInt a (i2 + 1) (j2 - 1) (swp dk i2 j2) := ⟨_, rfl⟩
            rw [← hL] at hP
            have HP := Sh.mk hP
            clear hP
            have HL := Sh.mk hL
            clear hL
            go_upto_region 10 with (fail)
            go_cut [] (fun wx => St w g off cap (swp dk i2 j2) wx)
            case first =>
              obtain ⟨G, hG⟩ : ∃ G : Nat → Int, ∀ t, G t = dk[t]! := ⟨fun t => dk[t]!, fun _ => rfl⟩
              have hcw := fun t (ht : t < d.size) => HS.out.row.cell (t := t) (by omega)
              have hfw := fun t (_ : t < d.size) => HS.out.row.frozen (off + t)
              have hst := fun q => HS.out.swap q (i := i2) (j := j2) (by omega) (by omega)
              simp only [← hG] at hcw hst
              replace hst := Sh.mk hst
              clear hG HS
              by_cases hxy : i2 = j2
              · subst hxy
                go_region
                all_goals (go_wp2; go_meet; exact hst.out 1)
              · go_region
                all_goals (go_wp2; go_meet; exact hst.out 1)
            case rest =>
              clear HS
              have HS := Sh.mk hcut
              clear hcut
              go_wp2
              go_loopw [10, 11] (fun vi vj wr => ∃ (i j : Nat) (dk : Array Int), vi = .int .i64 i ∧ vj = .int .i64 j ∧ a < i ∧ j < b ∧ dk.size = d.size ∧ St w g off cap dk wr ∧ partLoop ltInt a i j dk = L) (fun _ vj _ => (toI vj).toNat)
              case atStart => exact ⟨i2 + 1, j2 - 1, swp dk i2 j2, by go_num, by first | go_num | (congr 1; omega), by omega, by omega, hsz2, HS.out, HL.out.symm⟩
              case round =>
                clear HS HL
                obtain ⟨i, j, dk, rfl, rfl, hai, hjb, hsk, hS, hL⟩ := hrel
                have HS := Sh.mk hS
                have HL := Sh.mk hL
                clear hS hL
                go_upto_block 6 with (fail)
                go_cut [10] (fun vI wx => vI = .int .i64 ((scanUp (fun x => ltInt x dk[a]!) dk j i : Nat) : Int) ∧ St w g off cap dk wx)
                case first =>
                  go_wp2_with fail
                  go_loopw [10] (fun vi wr => ∃ k : Nat, vi = .int .i64 k ∧ a < k ∧ scanUp (fun x => ltInt x dk[a]!) dk j k = scanUp (fun x => ltInt x dk[a]!) dk j i ∧ St w g off cap dk wr) (fun vi _ => j + 1 - (toI vi).toNat)
                  case atStart => exact ⟨i, rfl, hai, rfl, HS.out⟩
                  case round =>
                    obtain ⟨k, rfl, hak, hO, hS⟩ := hrel
                    obtain ⟨G, hG⟩ : ∃ G : Nat → Int, ∀ t, G t = dk[t]! := ⟨fun t => dk[t]!, fun _ => rfl⟩
                    have hcw : ∀ t, t < d.size → wr.cell? ⟨g, off + t, none⟩ = some (.int .u64 (G t)) := fun t ht => by rw [hG]; exact hS.row.cell (by omega)
                    have HG := Sh.mk hG
                    have HO := Sh.mk hO
                    clear HS
                    have HS := Sh.mk hS
                    clear hG hO hS
                    by_cases hkj : k ≤ j
                    · have h1 : (k : Int) ≤ (j : Int) := by omega
                      go_wp2
                      go_quiet (first | (go_at_call 79; exact (less_calls _ _ _).mono (fun _ _ h => ⟨h.1, _, h.2⟩)))
                      go_wp2
                      · have hl : ltInt (G k) (G a) = true := by assumption
                        exact ⟨⟨k + 1, by first | go_num | (congr 1; omega), by omega, by rw [← HO.out]; exact (up_go hkj (by show (ltInt dk[k]! dk[a]!) = true; rw [← HG.out, ← HG.out]; simp [hl])).symm, HS.out.drewN _⟩, by simp [toI]; omega⟩
                      · have hl : ltInt (G k) (G a) = false := by assumption
                        go_meet
                        exact ⟨by rw [← HO.out, up_end (.inr (by show (ltInt dk[k]! dk[a]!) = false; rw [← HG.out, ← HG.out]; simp [hl]))], HS.out.drewN _⟩
                    · have h1 : decide ((k : Int) ≤ (j : Int)) = false := by simp; omega
                      go_wp2
                      go_quiet (first | (go_at_call 79; exact (less_calls _ _ _).mono (fun _ _ h => ⟨h.1, _, h.2⟩)))
                      go_wp2
                      go_meet
                      exact ⟨by rw [← HO.out, up_end (.inl (by omega))], HS.out.drewN _⟩
                case rest =>
                  obtain ⟨he, hS⟩ := hcut
                  obtain ⟨i2, hi2⟩ : ∃ q : Nat, q = scanUp (fun x => ltInt x dk[a]!) dk j i := ⟨_, rfl⟩
                  rw [← hi2] at he
                  subst he
                  have hii : i ≤ i2 := by rw [hi2]; exact scanUp_ge _ _ _ _
                  clear HS
                  have HS := Sh.mk hS
                  replace hi2 := Sh.mk hi2
                  clear hS
                  go_upto_block 8 with (fail)
                  go_cut [11] (fun vI wx => vI = .int .i64 ((scanDown (fun x => !ltInt x dk[a]!) dk i2 j : Nat) : Int) ∧ St w g off cap dk wx)
                  case first =>
                    go_wp2_with fail
                    go_loopw [11] (fun vi wr => ∃ k : Nat, vi = .int .i64 k ∧ k ≤ j ∧ scanDown (fun x => !ltInt x dk[a]!) dk i2 k = scanDown (fun x => !ltInt x dk[a]!) dk i2 j ∧ St w g off cap dk wr) (fun vi _ => (toI vi).toNat)
                    case atStart => exact ⟨j, rfl, Nat.le_refl _, rfl, HS.out⟩
                    case round =>
                      obtain ⟨k, rfl, hak, hO, hS⟩ := hrel
                      obtain ⟨G, hG⟩ : ∃ G : Nat → Int, ∀ t, G t = dk[t]! := ⟨fun t => dk[t]!, fun _ => rfl⟩
                      have hcw : ∀ t, t < d.size → wr.cell? ⟨g, off + t, none⟩ = some (.int .u64 (G t)) := fun t ht => by rw [hG]; exact hS.row.cell (by omega)
                      have HG := Sh.mk hG
                      have HO := Sh.mk hO
                      clear HS
                      have HS := Sh.mk hS
                      clear hG hO hS
                      by_cases hkj : i2 ≤ k
                      · have h1 : (i2 : Int) ≤ (k : Int) := by omega
                        go_wp2
                        go_quiet (first | (go_at_call 79; exact (less_calls _ _ _).mono (fun _ _ h => ⟨h.1, _, h.2⟩)))
                        go_wp2
                        · have hl : ltInt (G k) (G a) = false := nb0 (by assumption)
                          exact ⟨⟨k - 1, by first | go_num | (congr 1; omega), by omega, by rw [← HO.out]; exact (down_go hkj (by omega) (by show (!ltInt dk[k]! dk[a]!) = true; rw [← HG.out, ← HG.out]; simp [hl])).symm, HS.out.drewN _⟩, by simp [toI]; omega⟩
                        · have hl : ltInt (G k) (G a) = true := nb1 (by assumption)
                          go_meet
                          exact ⟨by rw [← HO.out, down_end (.inr (by show (!ltInt dk[k]! dk[a]!) = false; rw [← HG.out, ← HG.out]; simp [hl]))], HS.out.drewN _⟩
                      · have h1 : decide ((i2 : Int) ≤ (k : Int)) = false := by simp; omega
                        go_wp2
                        go_quiet (first | (go_at_call 79; exact (less_calls _ _ _).mono (fun _ _ h => ⟨h.1, _, h.2⟩)))
                        go_wp2
                        go_meet
                        exact ⟨by rw [← HO.out, down_end (.inl (by omega))], HS.out.drewN _⟩
                  case rest =>
                    obtain ⟨he, hS⟩ := hcut
                    obtain ⟨j2, hj2⟩ : ∃ q : Nat, q = scanDown (fun x => !ltInt x dk[a]!) dk i2 j := ⟨_, rfl⟩
                    rw [← hj2] at he
                    subst he
                    have hjj : j2 ≤ j := by rw [hj2]; exact scanDown_le _ _ _ _
                    clear HS
                    have HS := Sh.mk hS
                    replace hj2 := Sh.mk hj2
                    clear hS
                    by_cases hgt : j2 < i2
                    · have h1 : (j2 : Int) < (i2 : Int) := by omega
                      have hL : partLoop ltInt a i j dk = (j2, dk) := by rw [partLoop_eq, ← hi2.out, ← hj2.out, if_pos hgt]
                      have e := HL.out.symm.trans hL
                      subst e
                      clear HL hL
                      go_upto_region 21 with (fail)
                      go_cut [] (fun wx => St w g off cap (swp dk j2 a) wx)
                      case first =>
                        obtain ⟨G, hG⟩ : ∃ G : Nat → Int, ∀ t, G t = dk[t]! := ⟨fun t => dk[t]!, fun _ => rfl⟩
                        have hcw := fun t (ht : t < d.size) => HS.out.row.cell (t := t) (by omega)
                        have hfw := fun t (_ : t < d.size) => HS.out.row.frozen (off + t)
                        have hst := fun q => HS.out.swap q (i := j2) (j := a) (by omega) (by omega)
                        simp only [← hG] at hcw hst
                        replace hst := Sh.mk hst
                        clear hG HS
                        by_cases hxy : j2 = a
                        · subst hxy
                          go_region
                          all_goals (go_wp2; go_meet; exact hst.out 1)
                        · go_region
                          all_goals (go_wp2; go_meet; exact hst.out 1)
                      case rest =>
                        clear HS
                        have HS := Sh.mk hcut
                        clear hcut
                        go_wp2
                        refine bodyPost_ret (results_tmp2 rfl _ _ _) rfl ?_
                        exact ⟨by rw [HP.out]; first | done | rfl, by rw [HP.out]; exact HS.out⟩
                    · have h1 : (i2 : Int) ≤ (j2 : Int) := by omega
                      have HL2 := Sh.mk (show partLoop ltInt a (i2 + 1) (j2 - 1) (swp dk i2 j2) = L by rw [← HL.out, partLoop_eq ltInt a i j dk, ← hi2.out, ← hj2.out, if_neg hgt])
                      have hsz2 : (swp dk i2 j2).size = d.size := by rw [swp_size]; exact hsk
                      go_upto_region 18 with (fail)
                      go_cut [] (fun wx => St w g off cap (swp dk i2 j2) wx)
                      case first =>
                        obtain ⟨G, hG⟩ : ∃ G : Nat → Int, ∀ t, G t = dk[t]! := ⟨fun t => dk[t]!, fun _ => rfl⟩
                        have hcw := fun t (ht : t < d.size) => HS.out.row.cell (t := t) (by omega)
                        have hfw := fun t (_ : t < d.size) => HS.out.row.frozen (off + t)
                        have hst := fun q => HS.out.swap q (i := i2) (j := j2) (by omega) (by omega)
                        simp only [← hG] at hcw hst
                        replace hst := Sh.mk hst
                        clear hG HS
                        by_cases hxy : i2 = j2
                        · subst hxy
                          go_region
                          all_goals (go_wp2; go_meet; exact hst.out 1)
                        · go_region
                          all_goals (go_wp2; go_meet; exact hst.out 1)
                      case rest =>
                        clear HS
                        have HS := Sh.mk hcut
                        clear hcut
                        go_wp2
                        exact ⟨⟨i2 + 1, j2 - 1, swp dk i2 j2, by go_num, by first | go_num | (congr 1; omega), by omega, by omega, hsz2, HS.out, HL2.out⟩, by simp [toI]; omega⟩
end Go.Proofs.Ytohginlodlijkaa.So

/-! The sort of uint64: the partition of equals (printed by wip/mksort.py). -/
namespace Go.Proofs.Ytohginlodlijkaa.So
open Go.RowKit Go.Sort
set_option maxHeartbeats 16000000 in
set_option maxRecDepth 100000 in
theorem parteq_calls (g off cap c a b p : Nat) (d : Array Int) (w : World) (hR : Row g off cap d w) (hap : a ≤ p) (hpb : p < b) (hb : b ≤ d.size) (hsz : d.size < 1152921504606846976) :
    Calls Try.prog 80 #[.slice (some ⟨g, off, none⟩) d.size c, .int .i64 a, .int .i64 b, .int .i64 p] w fun e w' => e = .returned (.int .i64 (partitionEqual ltInt d a b p).1) ∧ St w g off cap (partitionEqual ltInt d a b p).2 w' := by
  go_enter Try.func80, Try.ntmps80
  have HS := Sh.mk (St.refl hR)
  have hsd : d.size = d.size := rfl
  clear hR
  go_upto_region 1 with (fail)
  go_cut [] (fun wx => St w g off cap (swp d a p) wx)
  case first =>
    obtain ⟨G, hG⟩ : ∃ G : Nat → Int, ∀ t, G t = d[t]! := ⟨fun t => d[t]!, fun _ => rfl⟩
    have hcw := fun t (ht : t < d.size) => HS.out.row.cell (t := t) (by omega)
    have hfw := fun t (_ : t < d.size) => HS.out.row.frozen (off + t)
    have hst := fun q => HS.out.swap q (i := a) (j := p) (by omega) (by omega)
    simp only [← hG] at hcw hst
    replace hst := Sh.mk hst
    clear hG HS
    by_cases hxy : a = p
    · subst hxy
      go_region
      all_goals (go_wp2; go_meet; exact hst.out 1)
    · go_region
      all_goals (go_wp2; go_meet; exact hst.out 1)
  case rest =>
    clear HS
    have HS := Sh.mk hcut
    clear hcut
    have hsk : (swp d a p).size = d.size := swp_size d a p
    have HL := Sh.mk (show partEqLoop ltInt a (a + 1) (b - 1) (swp d a p) = partitionEqual ltInt d a b p from rfl)
    generalize swp d a p = dk at *
    go_wp2
    go_loopw [9, 10] (fun vi vj wr => ∃ (i j : Nat) (dk : Array Int), vi = .int .i64 i ∧ vj = .int .i64 j ∧ a < i ∧ j < b ∧ dk.size = d.size ∧ St w g off cap dk wr ∧ partEqLoop ltInt a i j dk = partitionEqual ltInt d a b p) (fun _ vj _ => (toI vj).toNat)
    case atStart => exact ⟨a + 1, b - 1, dk, by go_num, by first | go_num | (congr 1; omega), by omega, by omega, hsk, HS.out, HL.out⟩
    case round =>
      clear HS HL hsk dk
      obtain ⟨i, j, dk, rfl, rfl, hai, hjb, hsk, hS, hL⟩ := hrel
      have HS := Sh.mk hS
      have HL := Sh.mk hL
      clear hS hL
      go_upto_block 2 with (fail)
      go_cut [9] (fun vI wx => vI = .int .i64 ((scanUp (fun x => !ltInt dk[a]! x) dk j i : Nat) : Int) ∧ St w g off cap dk wx)
      case first =>
        go_wp2_with fail
        go_loopw [9] (fun vi wr => ∃ k : Nat, vi = .int .i64 k ∧ a < k ∧ scanUp (fun x => !ltInt dk[a]! x) dk j k = scanUp (fun x => !ltInt dk[a]! x) dk j i ∧ St w g off cap dk wr) (fun vi _ => j + 1 - (toI vi).toNat)
        case atStart => exact ⟨i, rfl, hai, rfl, HS.out⟩
        case round =>
          obtain ⟨k, rfl, hak, hO, hS⟩ := hrel
          obtain ⟨G, hG⟩ : ∃ G : Nat → Int, ∀ t, G t = dk[t]! := ⟨fun t => dk[t]!, fun _ => rfl⟩
          have hcw : ∀ t, t < d.size → wr.cell? ⟨g, off + t, none⟩ = some (.int .u64 (G t)) := fun t ht => by rw [hG]; exact hS.row.cell (by omega)
          have HG := Sh.mk hG
          have HO := Sh.mk hO
          clear HS
          have HS := Sh.mk hS
          clear hG hO hS
          by_cases hkj : k ≤ j
          · have h1 : (k : Int) ≤ (j : Int) := by omega
            go_wp2
            go_quiet (first | (go_at_call 79; exact (less_calls _ _ _).mono (fun _ _ h => ⟨h.1, _, h.2⟩)))
            go_wp2
            · have hl : ltInt (G a) (G k) = false := nb0 (by assumption)
              exact ⟨⟨k + 1, by first | go_num | (congr 1; omega), by omega, by rw [← HO.out]; exact (up_go hkj (by show (!ltInt dk[a]! dk[k]!) = true; rw [← HG.out, ← HG.out]; simp [hl])).symm, HS.out.drewN _⟩, by simp [toI]; omega⟩
            · have hl : ltInt (G a) (G k) = true := nb1 (by assumption)
              go_meet
              exact ⟨by rw [← HO.out, up_end (.inr (by show (!ltInt dk[a]! dk[k]!) = false; rw [← HG.out, ← HG.out]; simp [hl]))], HS.out.drewN _⟩
          · have h1 : decide ((k : Int) ≤ (j : Int)) = false := by simp; omega
            go_wp2
            go_quiet (first | (go_at_call 79; exact (less_calls _ _ _).mono (fun _ _ h => ⟨h.1, _, h.2⟩)))
            go_wp2
            go_meet
            exact ⟨by rw [← HO.out, up_end (.inl (by omega))], HS.out.drewN _⟩
      case rest =>
        obtain ⟨he, hS⟩ := hcut
        obtain ⟨i2, hi2⟩ : ∃ q : Nat, q = scanUp (fun x => !ltInt dk[a]! x) dk j i := ⟨_, rfl⟩
        rw [← hi2] at he
        subst he
        have hii : i ≤ i2 := by rw [hi2]; exact scanUp_ge _ _ _ _
        clear HS
        have HS := Sh.mk hS
        replace hi2 := Sh.mk hi2
        clear hS
        go_upto_block 4 with (fail)
        go_cut [10] (fun vI wx => vI = .int .i64 ((scanDown (fun x => ltInt dk[a]! x) dk i2 j : Nat) : Int) ∧ St w g off cap dk wx)
        case first =>
          go_wp2_with fail
          go_loopw [10] (fun vi wr => ∃ k : Nat, vi = .int .i64 k ∧ k ≤ j ∧ scanDown (fun x => ltInt dk[a]! x) dk i2 k = scanDown (fun x => ltInt dk[a]! x) dk i2 j ∧ St w g off cap dk wr) (fun vi _ => (toI vi).toNat)
          case atStart => exact ⟨j, rfl, Nat.le_refl _, rfl, HS.out⟩
          case round =>
            obtain ⟨k, rfl, hak, hO, hS⟩ := hrel
            obtain ⟨G, hG⟩ : ∃ G : Nat → Int, ∀ t, G t = dk[t]! := ⟨fun t => dk[t]!, fun _ => rfl⟩
            have hcw : ∀ t, t < d.size → wr.cell? ⟨g, off + t, none⟩ = some (.int .u64 (G t)) := fun t ht => by rw [hG]; exact hS.row.cell (by omega)
            have HG := Sh.mk hG
            have HO := Sh.mk hO
            clear HS
            have HS := Sh.mk hS
            clear hG hO hS
            by_cases hkj : i2 ≤ k
            · have h1 : (i2 : Int) ≤ (k : Int) := by omega
              go_wp2
              go_quiet (first | (go_at_call 79; exact (less_calls _ _ _).mono (fun _ _ h => ⟨h.1, _, h.2⟩)))
              go_wp2
              · have hl : ltInt (G a) (G k) = true := by assumption
                exact ⟨⟨k - 1, by first | go_num | (congr 1; omega), by omega, by rw [← HO.out]; exact (down_go hkj (by omega) (by show (ltInt dk[a]! dk[k]!) = true; rw [← HG.out, ← HG.out]; simp [hl])).symm, HS.out.drewN _⟩, by simp [toI]; omega⟩
              · have hl : ltInt (G a) (G k) = false := by assumption
                go_meet
                exact ⟨by rw [← HO.out, down_end (.inr (by show (ltInt dk[a]! dk[k]!) = false; rw [← HG.out, ← HG.out]; simp [hl]))], HS.out.drewN _⟩
            · have h1 : decide ((i2 : Int) ≤ (k : Int)) = false := by simp; omega
              go_wp2
              go_quiet (first | (go_at_call 79; exact (less_calls _ _ _).mono (fun _ _ h => ⟨h.1, _, h.2⟩)))
              go_wp2
              go_meet
              exact ⟨by rw [← HO.out, down_end (.inl (by omega))], HS.out.drewN _⟩
        case rest =>
          obtain ⟨he, hS⟩ := hcut
          obtain ⟨j2, hj2⟩ : ∃ q : Nat, q = scanDown (fun x => ltInt dk[a]! x) dk i2 j := ⟨_, rfl⟩
          rw [← hj2] at he
          subst he
          have hjj : j2 ≤ j := by rw [hj2]; exact scanDown_le _ _ _ _
          clear HS
          have HS := Sh.mk hS
          replace hj2 := Sh.mk hj2
          clear hS
          by_cases hgt : j2 < i2
          · have h1 : (j2 : Int) < (i2 : Int) := by omega
            have hL : partEqLoop ltInt a i j dk = (i2, dk) := by rw [partEqLoop_eq, ← hi2.out, ← hj2.out, if_pos hgt]
            have HP := Sh.mk (HL.out.symm.trans hL)
            clear HL hL
            go_wp2
            go_ret
            exact ⟨by rw [HP.out]; first | done | rfl, by rw [HP.out]; exact HS.out⟩
          · have h1 : (i2 : Int) ≤ (j2 : Int) := by omega
            have HL2 := Sh.mk (show partEqLoop ltInt a (i2 + 1) (j2 - 1) (swp dk i2 j2) = partitionEqual ltInt d a b p by rw [← HL.out, partEqLoop_eq ltInt a i j dk, ← hi2.out, ← hj2.out, if_neg hgt])
            have hsz2 : (swp dk i2 j2).size = d.size := by rw [swp_size]; exact hsk
            go_upto_region 8 with (fail)
            go_cut [] (fun wx => St w g off cap (swp dk i2 j2) wx)
            case first =>
              obtain ⟨G, hG⟩ : ∃ G : Nat → Int, ∀ t, G t = dk[t]! := ⟨fun t => dk[t]!, fun _ => rfl⟩
              have hcw := fun t (ht : t < d.size) => HS.out.row.cell (t := t) (by omega)
              have hfw := fun t (_ : t < d.size) => HS.out.row.frozen (off + t)
              have hst := fun q => HS.out.swap q (i := i2) (j := j2) (by omega) (by omega)
              simp only [← hG] at hcw hst
              replace hst := Sh.mk hst
              clear hG HS
              by_cases hxy : i2 = j2
              · subst hxy
                go_region
                all_goals (go_wp2; go_meet; exact hst.out 1)
              · go_region
                all_goals (go_wp2; go_meet; exact hst.out 1)
            case rest =>
              clear HS
              have HS := Sh.mk hcut
              clear hcut
              go_wp2
              exact ⟨⟨i2 + 1, j2 - 1, swp dk i2 j2, by go_num, by first | go_num | (congr 1; omega), by omega, by omega, hsz2, HS.out, HL2.out⟩, by simp [toI]; omega⟩
end Go.Proofs.Ytohginlodlijkaa.So

/-! The sort of uint64: is a short piece sorted already (partialInsertionSort of fewer than 50 numbers turns nothing). -/
namespace Go.Proofs.Ytohginlodlijkaa.So
open Go.RowKit Go.Sort
theorem ss_go {d : Array Int} {b i : Nat} (h : i < b) (hl : ltInt d[i]! d[i - 1]! = false) : scanSorted ltInt d b i = scanSorted ltInt d b (i + 1) := by rw [scanSorted, if_pos (by simp [h, hl])]
theorem ss_end {d : Array Int} {b i : Nat} (h : b ≤ i ∨ ltInt d[i]! d[i - 1]! = true) : scanSorted ltInt d b i = i := by
  rw [scanSorted, if_neg (by rcases h with h | h; · simp; omega
                             · simp [h])]
theorem ss_le (d : Array Int) (b : Nat) : ∀ (n i : Nat), b - i ≤ n → i ≤ b → scanSorted ltInt d b i ≤ b
  | 0, i, h, hi => by rw [ss_end (.inl (by omega))]; exact hi
  | n + 1, i, h, hi => by
    by_cases h1 : i < b
    · cases hl : ltInt d[i]! d[i - 1]! with
      | false => rw [ss_go h1 hl]; exact ss_le d b n (i + 1) (by omega) (by omega)
      | true => rw [ss_end (.inr hl)]; exact hi
    · rw [ss_end (.inl (by omega))]; exact hi
theorem pins_few {d : Array Int} {a b : Nat} (h : b - a < 50) : partialInsertionSort ltInt d a b = (d, decide (scanSorted ltInt d b (a + 1) = b)) := by
  unfold partialInsertionSort
  rw [partialIns]
  by_cases h1 : scanSorted ltInt d b (a + 1) = b
  · simp [h1]
  · simp [h1, h]
set_option maxHeartbeats 8000000 in
set_option maxRecDepth 100000 in
theorem pins_calls (g off cap c a b : Nat) (d : Array Int) (w : World) (hR : Row g off cap d w) (hab : a < b) (hb : b ≤ d.size) (hsz : d.size < 50) :
    Calls Try.prog 78 #[.slice (some ⟨g, off, none⟩) d.size c, .int .i64 a, .int .i64 b] w fun e w' => e = .returned (.bool (decide (scanSorted ltInt d b (a + 1) = b))) ∧ St w g off cap d w' := by
  go_enter Try.func78, Try.ntmps78
  have HS := Sh.mk (St.refl hR)
  clear hR
  go_wp2
  go_loopw [7, 8] (fun vi vj wr => vi = .int .i64 ((a + 1 : Nat) : Int) ∧ vj = .int .i64 0 ∧ St w g off cap d wr) (fun _ _ _ => 0)
  case atStart => exact ⟨by go_num, rfl, HS.out⟩
  case round =>
    obtain ⟨rfl, rfl, hS⟩ := hrel
    clear HS
    have HS := Sh.mk hS
    clear hS
    go_upto_block 2 with (fail)
    go_cut [7] (fun vI wx => vI = .int .i64 ((scanSorted ltInt d b (a + 1) : Nat) : Int) ∧ St w g off cap d wx)
    case first =>
      go_wp2_with fail
      go_loopw [7] (fun vi wr => ∃ k : Nat, vi = .int .i64 k ∧ a < k ∧ k ≤ b ∧ scanSorted ltInt d b k = scanSorted ltInt d b (a + 1) ∧ St w g off cap d wr) (fun vi _ => b - (toI vi).toNat)
      case atStart => exact ⟨a + 1, rfl, by omega, by omega, rfl, HS.out⟩
      case round =>
        obtain ⟨k, rfl, hak, hkb, hO, hS⟩ := hrel
        obtain ⟨G, hG⟩ : ∃ G : Nat → Int, ∀ t, G t = d[t]! := ⟨fun t => d[t]!, fun _ => rfl⟩
        have hcw : ∀ t, t < d.size → wr.cell? ⟨g, off + t, none⟩ = some (.int .u64 (G t)) := fun t ht => by rw [hG]; exact hS.row.cell (by omega)
        have HG := Sh.mk hG
        have HO := Sh.mk hO
        clear HS
        have HS := Sh.mk hS
        clear hG hO hS
        by_cases hkj : k < b
        · have h1 : (k : Int) < (b : Int) := by omega
          go_wp2
          go_quiet (first | (go_at_call 79; exact (less_calls _ _ _).mono (fun _ _ h => ⟨h.1, _, h.2⟩)))
          go_wp2
          · have hl : ltInt (G k) (G (k - 1)) = false := nb0 (by assumption)
            exact ⟨⟨k + 1, by go_num, by omega, by omega, by rw [← HO.out]; exact (ss_go hkj (by rw [← HG.out, ← HG.out]; exact hl)).symm, HS.out.drewN _⟩, by simp [toI]; omega⟩
          · have hl : ltInt (G k) (G (k - 1)) = true := nb1 (by assumption)
            go_meet
            exact ⟨by rw [← HO.out, ss_end (.inr (by rw [← HG.out, ← HG.out]; exact hl))], HS.out.drewN _⟩
        · have h1 : decide ((k : Int) < (b : Int)) = false := by simp; omega
          go_wp2
          go_quiet (first | (go_at_call 79; exact (less_calls _ _ _).mono (fun _ _ h => ⟨h.1, _, h.2⟩)))
          go_wp2
          go_meet
          exact ⟨by rw [← HO.out, ss_end (.inl (by omega))], HS.out.drewN _⟩
    case rest =>
      obtain ⟨he, hS⟩ := hcut
      have hle := ss_le d b _ (a + 1) (Nat.le_refl _) (by omega)
      obtain ⟨q, hq⟩ : ∃ q, q = scanSorted ltInt d b (a + 1) := ⟨_, rfl⟩
      rw [← hq] at he hle
      replace hq := Sh.mk hq
      subst he
      clear HS
      have HS := Sh.mk hS
      clear hS
      by_cases hqb : q = b
      · have h1 : ((q : Int) == (b : Int)) = true := by simp; omega
        have HQ := Sh.mk hqb
        clear hqb
        go_wp2
        go_ret
        exact ⟨by rw [← hq.out]; simp [HQ.out], HS.out⟩
      · have h1 : ((q : Int) == (b : Int)) = false := by simp; omega
        have h2 : (b : Int) - (a : Int) < 50 := by omega
        go_wp2
        go_ret
        exact ⟨by rw [← hq.out]; simp [hqb], HS.out⟩
end Go.Proofs.Ytohginlodlijkaa.So

/-! The sort of uint64: the pivot (of fewer than 50 numbers): some place of the piece; nothing is turned. -/
namespace Go.Proofs.Ytohginlodlijkaa.So
open Go.RowKit Go.Sort
/-- A variable of a function's own, at block b. -/
def Bx (b : Nat) (t : TypeId) (v : Value) (w : World) : Prop := w.heap[b]? = some (.cells #[v] t (0, 0))
theorem Bx.cell {b : Nat} {t : TypeId} {v : Value} {w : World} (h : Bx b t v w) : w.cell? ⟨b, 0, none⟩ = some v := by unfold Bx at h; simp [World.cell?, h]
theorem Bx.frozen {b : Nat} {t : TypeId} {v : Value} {w : World} (h : Bx b t v w) : w.frozen? ⟨b, 0, none⟩ = false := by unfold Bx at h; simp [World.frozen?, h]
theorem Bx.drewN {b : Nat} {t : TypeId} {v : Value} {w : World} (h : Bx b t v w) (n : Nat) : Bx b t v (w.drewN n) := h
theorem Bx.set {b : Nat} {t : TypeId} {v : Value} {w : World} (h : Bx b t v w) (u : Value) : Bx b t u (w.setCell ⟨b, 0, none⟩ u) := by
  unfold Bx at *
  simp only [World.setCell, Array.getElem?_modify, h, if_true, Option.map_some]
  rfl
theorem Bx.other {b g i : Nat} {t : TypeId} {v u : Value} {w : World} (h : Bx b t v w) (hb : b ≠ g) : Bx b t v (w.setCell ⟨g, i, none⟩ u) := (Below.heap_setCell w ⟨g, i, none⟩ u b hb).trans h
theorem Bx.new (w : World) (t : TypeId) (v : Value) : Bx w.heap.size t v (w.alloc (.cells #[v] t)) := World.alloc_heap_new w _
theorem St.box {w0 w : World} {g off cap b : Nat} {d : Array Int} (h : St w0 g off cap d w) (hb : w0.heap.size ≤ b) (hg : g ≠ b) (v : Value) : St w0 g off cap d (w.setCell ⟨b, 0, none⟩ v) := ⟨h.row.other hg v, h.kp.set (.inr hb) 0 v⟩
theorem St.alloc {w0 w : World} {g off cap : Nat} {d : Array Int} (h : St w0 g off cap d w) (o : Obj) : St w0 g off cap d (w.alloc o) := ⟨h.row.alloc o, h.kp.alloc o⟩
set_option maxHeartbeats 8000000 in
set_option maxRecDepth 100000 in
theorem order_calls (g off cap c x y sb : Nat) (s : Int) (d : Array Int) (w0 w : World) (hS : St w0 g off cap d w) (hsb : w0.heap.size ≤ sb) (hgb : g ≠ sb) (hB : Bx sb 3 (.int .i64 s) w) (hs0 : 0 ≤ s) (hs1 : s < 100) (hx : x < d.size) (hy : y < d.size) :
    Calls Try.prog 90 #[.slice (some ⟨g, off, none⟩) d.size c, .int .i64 x, .int .i64 y, .pointer (some ⟨sb, 0, none⟩)] w fun e w' => ∃ (p q : Nat) (s' : Int), e = .returned (.tuple #[.int .i64 p, .int .i64 q]) ∧ ((p = x ∧ q = y) ∨ (p = y ∧ q = x)) ∧ s ≤ s' ∧ s' ≤ s + 1 ∧ St w0 g off cap d w' ∧ Bx sb 3 (.int .i64 s') w' := by
  go_enter Try.func90, Try.ntmps90
  obtain ⟨G, hG⟩ : ∃ G : Nat → Int, ∀ t, G t = d[t]! := ⟨fun t => d[t]!, fun _ => rfl⟩
  have hcw : ∀ t, t < d.size → w.cell? ⟨g, off + t, none⟩ = some (.int .u64 (G t)) := fun t ht => by rw [hG]; exact hS.row.cell (by omega)
  have b0 := hB.cell
  have b1 := hB.frozen
  have HS := Sh.mk hS
  have HB := Sh.mk hB
  clear hG hS hB
  go_wp2
  go_quiet (first | (go_at_call 79; exact (less_calls _ _ _).mono (fun _ _ h => ⟨h.1, _, h.2⟩)))
  go_wp2
  · refine bodyPost_ret (results_tmp2 rfl _ _ _) rfl ?_
    exact ⟨y, x, s + 1, rfl, .inr ⟨rfl, rfl⟩, by omega, by omega, (HS.out.drewN nq).box hsb hgb _, (HB.out.drewN nq).set _⟩
  · refine bodyPost_ret (results_tmp2 rfl _ _ _) rfl ?_
    exact ⟨x, y, s, rfl, .inl ⟨rfl, rfl⟩, by omega, by omega, HS.out.drewN nq, HB.out.drewN nq⟩
set_option maxHeartbeats 8000000 in
set_option maxRecDepth 100000 in
theorem med_calls (g off cap c x y z sb : Nat) (s : Int) (d : Array Int) (w0 w : World) (hS : St w0 g off cap d w) (hsb : w0.heap.size ≤ sb) (hgb : g ≠ sb) (hB : Bx sb 3 (.int .i64 s) w) (hs0 : 0 ≤ s) (hs1 : s < 90) (hx : x < d.size) (hy : y < d.size) (hz : z < d.size) :
    Calls Try.prog 89 #[.slice (some ⟨g, off, none⟩) d.size c, .int .i64 x, .int .i64 y, .int .i64 z, .pointer (some ⟨sb, 0, none⟩)] w fun e w' => ∃ (m : Nat) (s' : Int), e = .returned (.int .i64 m) ∧ (m = x ∨ m = y ∨ m = z) ∧ s ≤ s' ∧ s' ≤ s + 3 ∧ St w0 g off cap d w' ∧ Bx sb 3 (.int .i64 s') w' := by
  have HO := Sh.mk (fun (p q : Nat) (t : Int) (W : World) (h1 : St w0 g off cap d W) (h2 : Bx sb 3 (.int .i64 t) W) (h3 : 0 ≤ t) (h4 : t < 100) (hp : p < d.size) (hq : q < d.size) => order_calls g off cap c p q sb t d w0 W h1 hsb hgb h2 h3 h4 hp hq)
  have HS := Sh.mk hS
  have HB := Sh.mk hB
  clear hS hB
  go_enter Try.func89, Try.ntmps89
  go_wp2_with (go_at_call 90; refine (HO.out x y s _ HS.out HB.out (by omega) (by omega) hx hy).mono ?_; rintro e w1 ⟨p, q, s1, rfl, h1, h2, h3, hS1, hB1⟩; clear HS HB; have HS := Sh.mk hS1; have HB := Sh.mk hB1; clear hS1 hB1)
  refine (HO.out q z s1 _ HS.out HB.out (by omega) (by omega) (by omega) hz).mono ?_
  rintro e w2 ⟨p2, q2, s2, rfl, h4, h5, h6, hS2, hB2⟩
  clear HS HB
  have HS := Sh.mk hS2
  have HB := Sh.mk hB2
  clear hS2 hB2
  go_wp2_with (go_at_call 90; refine (HO.out p p2 s2 _ HS.out HB.out (by omega) (by omega) (by omega) (by omega)).mono ?_; rintro e w3 ⟨p3, q3, s3, rfl, h7, h8, h9, hS3, hB3⟩; clear HS HB; have HS := Sh.mk hS3; have HB := Sh.mk hB3; clear hS3 hB3)
  go_ret
  exact ⟨q3, s3, rfl, by omega, by omega, by omega, HS.out, HB.out⟩
set_option maxHeartbeats 8000000 in
set_option maxRecDepth 100000 in
theorem pivot_calls (g off cap c a n : Nat) (d : Array Int) (w : World) (hR : Row g off cap d w) (hb : a + n ≤ d.size) (hn : 12 < n) (hsz : d.size < 50) (b : Nat) (hbn : b = a + n) :
    Calls Try.prog 76 #[.slice (some ⟨g, off, none⟩) d.size c, .int .i64 a, .int .i64 b] w fun e w' => ∃ (p h : Nat), e = .returned (.tuple #[.int .i64 p, .int .i64 h]) ∧ a ≤ p ∧ p < b ∧ h ≤ 2 ∧ St w g off cap d w' := by
  have hg := hR.lt
  have HM := Sh.mk (fun (x y z : Nat) (W : World) (h1 : St w g off cap d W) (h2 : Bx w.heap.size 3 (.int .i64 0) W) (hx : x < d.size) (hy : y < d.size) (hz : z < d.size) => med_calls g off cap c x y z w.heap.size 0 d w W h1 (Nat.le_refl _) (by omega) h2 (by omega) (by omega) hx hy hz)
  have HS := Sh.mk ((St.refl hR).alloc (.cells #[.int .i64 0] 3))
  have HB := Sh.mk (Bx.new w 3 (.int .i64 0))
  have h1 : a + n ≤ b := by omega
  have h2 : b ≤ a + n := by omega
  clear hR hbn
  go_enter Try.func76, Try.ntmps76
  have e1 : (a : Int) + ((b : Int) - (a : Int)) / 4 = ((a + n / 4 : Nat) : Int) := by omega
  have e2 : (a : Int) + ((b : Int) - (a : Int)) / 4 * 2 = ((a + n / 4 * 2 : Nat) : Int) := by omega
  have e3 : (a : Int) + ((b : Int) - (a : Int)) / 4 * 3 = ((a + n / 4 * 3 : Nat) : Int) := by omega
  have E := Sh.mk (And.intro e1 (And.intro e2 e3))
  clear e1 e2 e3
  go_wp2_with (go_at_call 89; rw [E.out.1, E.out.2.1, E.out.2.2]; refine (HM.out (a + n / 4) (a + n / 4 * 2) (a + n / 4 * 3) _ HS.out HB.out (by omega) (by omega) (by omega)).mono ?_; rintro e w1 ⟨m, s1, rfl, hm, hs1, hs2, hS1, hB1⟩; clear HS HB; have b0 := hB1.cell; have HS := Sh.mk hS1; clear hS1 hB1)
  all_goals (refine bodyPost_ret (results_tmp2 rfl _ _ _) rfl ?_; first | exact ⟨m, 0, rfl, by omega, by omega, by omega, HS.out⟩ | exact ⟨m, 1, rfl, by omega, by omega, by omega, HS.out⟩ | exact ⟨m, 2, rfl, by omega, by omega, by omega, HS.out⟩)
end Go.Proofs.Ytohginlodlijkaa.So

/-! The sort of uint64: the patterns that are broken: three places of the piece change with others; which ones, is not told. -/
namespace Go.Proofs.Ytohginlodlijkaa.So
open Go.RowKit Go.Sort
theorem wrap64_range (x : Int) : 0 ≤ IntKind.u64.wrap x ∧ IntKind.u64.wrap x < 18446744073709551616 := by rw [IntKind.wrap_u64]; omega
theorem bits_range (op : BinOp) (x y : Int) : 0 ≤ bits op .u64 x y ∧ bits op .u64 x y < 18446744073709551616 := by
  unfold bits
  exact wrap64_range _
set_option maxHeartbeats 8000000 in
set_option maxRecDepth 100000 in
theorem next_calls (g off cap sb : Nat) (x : Int) (d : Array Int) (w0 w : World) (hS : St w0 g off cap d w) (hsb : w0.heap.size ≤ sb) (hgb : g ≠ sb) (hB : Bx sb 115 (.int .u64 x) w) :
    Calls Try.prog 87 #[.pointer (some ⟨sb, 0, none⟩)] w fun e w' => ∃ y : Int, e = .returned (.int .u64 y) ∧ (0 ≤ y ∧ y < 18446744073709551616) ∧ St w0 g off cap d w' ∧ Bx sb 115 (.int .u64 y) w' := by
  have b0 := hB.cell
  have b1 := hB.frozen
  have HS := Sh.mk hS
  have HB := Sh.mk hB
  clear hS hB
  go_enter Try.func87, Try.ntmps87
  go_wp2
  go_region
  all_goals go_wp2
  have hry := bits_range .xor x (IntKind.u64.wrap (x * 8192))
  have HS1 := Sh.mk ((HS.out.box hsb hgb (.int .u64 (bits .xor .u64 x (IntKind.u64.wrap (x * 8192))))).drewN 1)
  have HB1 := Sh.mk ((HB.out.set (.int .u64 (bits .xor .u64 x (IntKind.u64.wrap (x * 8192))))).drewN 1)
  change Sh (St w0 g off cap d (w.setCell ⟨sb, 0, none⟩ (.int .u64 (bits .xor .u64 x (IntKind.u64.wrap (x * 8192))))).drew) at HS1
  change Sh (Bx sb 115 _ (w.setCell ⟨sb, 0, none⟩ (.int .u64 (bits .xor .u64 x (IntKind.u64.wrap (x * 8192))))).drew) at HB1
  generalize (w.setCell ⟨sb, 0, none⟩ (.int .u64 (bits .xor .u64 x (IntKind.u64.wrap (x * 8192))))).drew = w1 at *
  generalize bits .xor .u64 x (IntKind.u64.wrap (x * 8192)) = y at *
  clear b0 b1 HS HB
  have b0 := HB1.out.cell
  have b1 := HB1.out.frozen
  go_region
  all_goals go_wp2
  have hry2 := bits_range .xor y (y / 128)
  have HS2 := Sh.mk ((HS1.out.box hsb hgb (.int .u64 (bits .xor .u64 y (y / 128)))).drewN 1)
  have HB2 := Sh.mk ((HB1.out.set (.int .u64 (bits .xor .u64 y (y / 128)))).drewN 1)
  change Sh (St w0 g off cap d (w1.setCell ⟨sb, 0, none⟩ (.int .u64 (bits .xor .u64 y (y / 128)))).drew) at HS2
  change Sh (Bx sb 115 _ (w1.setCell ⟨sb, 0, none⟩ (.int .u64 (bits .xor .u64 y (y / 128)))).drew) at HB2
  generalize (w1.setCell ⟨sb, 0, none⟩ (.int .u64 (bits .xor .u64 y (y / 128)))).drew = w2 at *
  generalize bits .xor .u64 y (y / 128) = y2 at *
  clear b0 b1 HS1 HB1
  have b0 := HB2.out.cell
  have b1 := HB2.out.frozen
  go_region
  all_goals go_wp2
  have hry3 := bits_range .xor y2 (IntKind.u64.wrap (y2 * 131072))
  have HS3 := Sh.mk ((HS2.out.box hsb hgb (.int .u64 (bits .xor .u64 y2 (IntKind.u64.wrap (y2 * 131072))))).drewN 1)
  have HB3 := Sh.mk ((HB2.out.set (.int .u64 (bits .xor .u64 y2 (IntKind.u64.wrap (y2 * 131072))))).drewN 1)
  change Sh (St w0 g off cap d (w2.setCell ⟨sb, 0, none⟩ (.int .u64 (bits .xor .u64 y2 (IntKind.u64.wrap (y2 * 131072))))).drew) at HS3
  change Sh (Bx sb 115 _ (w2.setCell ⟨sb, 0, none⟩ (.int .u64 (bits .xor .u64 y2 (IntKind.u64.wrap (y2 * 131072))))).drew) at HB3
  generalize (w2.setCell ⟨sb, 0, none⟩ (.int .u64 (bits .xor .u64 y2 (IntKind.u64.wrap (y2 * 131072))))).drew = w3 at *
  generalize bits .xor .u64 y2 (IntKind.u64.wrap (y2 * 131072)) = y3 at *
  clear b0 b1 HS2 HB2
  have b0 := HB3.out.cell
  have b1 := HB3.out.frozen
  go_wp2
  go_ret
  exact ⟨y3, rfl, hry3, HS3.out, HB3.out⟩
end Go.Proofs.Ytohginlodlijkaa.So

/-! The sort of uint64: the next power of two, of a number below 256. -/
namespace Go.Proofs.Ytohginlodlijkaa.So
open Go.RowKit Go.Sort
theorem len8_ok : ∀ n : Fin 256, (Lib.len8tab[n.val]'(by rw [Lib.len8tab_size]; exact n.2)).toNat ≤ 8 ∧ (0 < n.val → 2 ^ (Lib.len8tab[n.val]'(by rw [Lib.len8tab_size]; exact n.2)).toNat ≤ 2 * n.val) := by decide +kernel
set_option maxHeartbeats 4000000 in
set_option maxRecDepth 100000 in
theorem blen64_calls (x : Int) (h0 : 0 ≤ x) (h1 : x < 256) (w : World) : Calls Try.prog 83 #[.int .u64 x] w fun e w' => (∃ r : Nat, e = .returned (.int .i64 r) ∧ r ≤ 8 ∧ (0 < x → 2 ^ r ≤ 2 * x.toNat)) ∧ w' = w := by
  go_enter Try.func83, Try.ntmps83
  have hx : x.toNat < 256 := by omega
  go_wp2
  go_ret
  obtain ⟨k1, k2⟩ := len8_ok ⟨x.toNat, hx⟩
  simp only [] at k1 k2
  refine ⟨⟨_, ?_, k1, fun h => k2 (by omega)⟩, rfl⟩
  show Ending.returned (.int .i64 (wrap64 (wrap64 _))) = _
  generalize (Lib.len8tab[x.toNat]).toNat = k at *
  rw [IntWalk.wrap64_in (k : Int) (by omega), IntWalk.wrap64_in (k : Int) (by omega)]
set_option maxHeartbeats 4000000 in
set_option maxRecDepth 100000 in
theorem blen_calls (x : Int) (h0 : 0 ≤ x) (h1 : x < 256) (w : World) : Calls Try.prog 65 #[.int .u64 x] w fun e w' => (∃ r : Nat, e = .returned (.int .i64 r) ∧ r ≤ 8 ∧ (0 < x → 2 ^ r ≤ 2 * x.toNat)) ∧ w' = w := by
  go_enter Try.func65, Try.ntmps65
  go_wp2_with (go_at_call 83; refine (blen64_calls x h0 h1 _).mono ?_; rintro e w' ⟨⟨r, rfl, h2, h3⟩, rfl⟩)
  go_ret
  exact ⟨⟨r, rfl, h2, h3⟩, rfl⟩
set_option maxHeartbeats 4000000 in
set_option maxRecDepth 100000 in
theorem pow_calls (n : Nat) (h0 : 8 ≤ n) (h1 : n < 50) (w : World) : Calls Try.prog 86 #[.int .i64 n] w fun e w' => (∃ m : Nat, e = .returned (.int .u64 m) ∧ 1 ≤ m ∧ m ≤ 2 * n) ∧ w' = w := by
  go_enter Try.func86, Try.ntmps86
  go_wp2_with (go_at_call 65; refine (blen_calls (n : Int) (by omega) (by omega) _).mono ?_; rintro e w' ⟨⟨r, rfl, h2, h3⟩, rfl⟩)
  go_ret
  have h4 := h3 (by omega)
  rw [Int.toNat_natCast] at h4
  refine ⟨⟨2 ^ r, ?_, Nat.one_le_two_pow, h4⟩, rfl⟩
  show Ending.returned (.int .u64 (IntKind.u64.wrap (2 ^ r))) = _
  rw [show (2 : Int) ^ r = ((2 ^ r : Nat) : Int) by simp, IntKind.wrap_u64]
  generalize (2 ^ r : Nat) = q at *
  congr 2
  omega
theorem and_small (x y : Int) (hx : 0 ≤ x ∧ x < 18446744073709551616) (h0 : 0 ≤ y) (h1 : y < 18446744073709551616) : ∃ q : Nat, bits .and .u64 x y = (q : Int) ∧ (q : Int) ≤ y := by
  refine ⟨x.toNat &&& y.toNat, u64_and x y hx.1 hx.2 h0 h1, ?_⟩
  have := Nat.and_le_right (n := x.toNat) (m := y.toNat)
  omega
set_option maxHeartbeats 8000000 in
set_option maxRecDepth 100000 in
theorem break_calls (g off cap c a n b : Nat) (d : Array Int) (w : World) (hR : Row g off cap d w) (hb : a + n ≤ d.size) (hn : 12 < n) (hsz : d.size < 50) (hbn : b = a + n) :
    Calls Try.prog 75 #[.slice (some ⟨g, off, none⟩) d.size c, .int .i64 a, .int .i64 b] w fun e w' => e = .returned (.tuple #[]) ∧ ∃ d', PermIn a b d d' ∧ St w g off cap d' w' := by
  have hg := hR.lt
  have HP := Sh.mk (pow_calls n (by omega) (by omega))
  have HS := Sh.mk ((St.refl hR).alloc (.cells #[.int .u64 n] 115))
  have HB := Sh.mk (Bx.new w 115 (.int .u64 n))
  have h1 : a + n ≤ b := by omega
  have h2 : b ≤ a + n := by omega
  have E := Sh.mk (show (b : Int) - (a : Int) = (n : Int) by omega)
  clear hR hbn
  go_enter Try.func75, Try.ntmps75
  go_wp2_with (go_at_call 86; rw [E.out]; refine (HP.out _).mono ?_; rintro e w1 ⟨⟨m, rfl, hm1, hm2⟩, rfl⟩)
  have hm3 : (0 : Int) ≤ (m : Int) - 1 := by omega
  go_loopw [9] (fun vi wr => ∃ (k : Nat) (x : Int) (dk : Array Int), vi = .int .i64 k ∧ a ≤ k ∧ k ≤ a + n / 4 * 2 + 2 ∧ dk.size = d.size ∧ PermIn a b d dk ∧ St w g off cap dk wr ∧ Bx w.heap.size 115 (.int .u64 x) wr) (fun vi _ => a + n / 4 * 2 + 2 - (toI vi).toNat)
  case atStart => exact ⟨a + n / 4 * 2 - 1, (n : Int), d, by first | go_num | (congr 1; omega), by omega, by omega, rfl, permIn_refl _ _ _, HS.out, HB.out⟩
  case round =>
    clear HS HB
    obtain ⟨k, x, dk, rfl, hk1, hk2, hsk, hPm, hS, hB⟩ := hrel
    have HPm := Sh.mk hPm
    have HS := Sh.mk hS
    have HB := Sh.mk hB
    clear hS hB hPm
    by_cases hle : k ≤ a + n / 4 * 2 + 1
    · have h3 : (k : Int) ≤ (a : Int) + (n : Int) / 4 * 2 + 1 := by omega
      go_upto_if 43 with (go_at_call 87; refine (next_calls g off cap w.heap.size x dk w wr HS.out (Nat.le_refl _) (by omega) HB.out).mono ?_; rintro e w2 ⟨y, rfl, hy, hS2, hB2⟩; obtain ⟨q, hq, hq1⟩ := and_small y ((m : Int) - 1) hy hm3 (by omega); clear HS HB; have HS := Sh.mk hS2; have HB := Sh.mk hB2; clear hS2 hB2)
      obtain ⟨o, ho⟩ : ∃ o : Nat, o = if n ≤ q then q - n else q := ⟨_, rfl⟩
      have hon : o < n := by rw [ho]; split <;> omega
      go_cut [10] (fun v10 wx => v10 = .int .i64 (o : Int) ∧ St w g off cap dk wx ∧ Bx w.heap.size 115 (.int .u64 y) wx)
      case first =>
        by_cases hqn : n ≤ q
        · rw [if_pos hqn] at ho
          go_wp2_with fail
          go_meet
          exact ⟨by first | go_num | (congr 1; omega), HS.out, HB.out⟩
        · rw [if_neg hqn] at ho
          go_wp2_with fail
          go_meet
          exact ⟨by first | go_num | (congr 1; omega), HS.out, HB.out⟩
      case rest =>
        obtain ⟨rfl, hS, hB⟩ := hcut
        clear HS HB ho hq
        have HS := Sh.mk hS
        have HB := Sh.mk hB
        clear hS hB
        have hgw : w.heap.size ≠ g := by omega
        obtain ⟨G, hG⟩ : ∃ G : Nat → Int, ∀ t, G t = dk[t]! := ⟨fun t => dk[t]!, fun _ => rfl⟩
        have hcw := fun t (ht : t < d.size) => HS.out.row.cell (t := t) (by omega)
        have hfw := fun t (_ : t < d.size) => HS.out.row.frozen (off + t)
        have hst := fun q => HS.out.swap q (i := k) (j := a + o) (by omega) (by omega)
        have hbx := fun q => ((HB.out.drewN q).other (g := g) (i := off + k) (u := .int .u64 dk[a + o]!) hgw).other (g := g) (i := off + (a + o)) (u := .int .u64 dk[k]!) hgw
        have hpm := Sh.mk (permIn_trans _ _ _ a b HPm.out (swp_permIn dk a b k (a + o) hk1 (by omega) (by omega) (by omega) (by omega)))
        simp only [← hG] at hcw hst hbx
        replace hst := Sh.mk hst
        replace hbx := Sh.mk hbx
        clear hG HS HB
        by_cases hxy : k = a + o
        · subst hxy
          go_wp2
          go_region
          all_goals go_wp2
          exact ⟨⟨a + o + 1, y, swp dk (a + o) (a + o), by go_num, by omega, by omega, by rw [swp_size]; exact hsk, hpm.out, hst.out 1, hbx.out 1⟩, by simp [toI]; omega⟩
        · go_wp2
          go_region
          all_goals go_wp2
          exact ⟨⟨k + 1, y, swp dk k (a + o), by go_num, by omega, by omega, by rw [swp_size]; exact hsk, hpm.out, hst.out 1, hbx.out 1⟩, by simp [toI]; omega⟩
    · go_wp2
      go_end0
      exact ⟨rfl, dk, HPm.out, HS.out⟩
end Go.Proofs.Ytohginlodlijkaa.So

/-! The sort of uint64: pdqsortOrdered of fewer than 50 numbers: a sorted permutation; nothing else turns. -/
namespace Go.Proofs.Ytohginlodlijkaa.So
open Go.RowKit Go.Sort
theorem below_perm {a b : Nat} {d d' : Array Int} (h : Go.Sort.Below ltInt a b d) (hb : b ≤ d.size) (hp : PermIn a b d d') : Go.Sort.Below ltInt a b d' := Go.Sort.Below.permA permIn_all hb h hp
/-- Behind a piece that is sorted the whole is. -/
def Fin (a0 b0 : Nat) (d0 : Array Int) (a b : Nat) (d : Array Int) : Prop := ∀ R, PermIn a b d R → SortedIn ltInt a b R → PermIn a0 b0 d0 R ∧ SortedIn ltInt a0 b0 R
theorem Fin.perm {a0 b0 a b : Nat} {d0 d d' : Array Int} (h : Fin a0 b0 d0 a b d) (hp : PermIn a b d d') : Fin a0 b0 d0 a b d' := fun R h1 h2 => h R (permIn_trans _ _ _ a b hp h1) h2
/-- What one call tells. -/
def Pdq (g off cap c : Nat) (N : Nat) : Prop := ∀ (a0 b0 l0 : Nat) (d0 : Array Int) (w : World), b0 - a0 < N → Row g off cap d0 w → a0 ≤ b0 → b0 ≤ d0.size → d0.size < 50 → l0 ≤ 100 → Go.Sort.Below ltInt a0 b0 d0 →
    Calls Try.prog 64 #[.slice (some ⟨g, off, none⟩) d0.size c, .int .i64 a0, .int .i64 b0, .int .i64 l0] w fun e w' => e = .returned (.tuple #[]) ∧ ∃ d', PermIn a0 b0 d0 d' ∧ SortedIn ltInt a0 b0 d' ∧ St w g off cap d' w'
set_option maxHeartbeats 32000000 in
set_option maxRecDepth 100000 in
theorem pdq_step (g off cap c N : Nat) (hIH : Pdq g off cap c N) : Pdq g off cap c (N + 1) := by
    intro a0 b0 l0 d0 w hN hR hab0 hb0 hsz hl0 hB0
    have IH := Sh.mk hIH
    clear hIH
    have HS := Sh.mk (St.refl hR)
    have HB := Sh.mk hB0
    have HF := Sh.mk (show Fin a0 b0 d0 a0 b0 d0 from fun R h1 h2 => ⟨h1, h2⟩)
    clear hR hB0
    go_enter Try.func64, Try.ntmps64
    go_wp2
    go_loopw [1, 2, 3, 8, 9] (fun va vb vl v8 v9 wr => ∃ (a b l : Nat) (wb wp : Bool) (d : Array Int), va = .int .i64 a ∧ vb = .int .i64 b ∧ vl = .int .i64 l ∧ v8 = .bool wb ∧ v9 = .bool wp ∧ a ≤ b ∧ b ≤ d0.size ∧ b - a ≤ b0 - a0 ∧ l ≤ 100 ∧ d.size = d0.size ∧ Go.Sort.Below ltInt a b d ∧ St w g off cap d wr ∧ Fin a0 b0 d0 a b d) (fun va vb _ _ _ _ => (toI vb - toI va).toNat)
    case atStart => exact ⟨a0, b0, l0, true, true, d0, rfl, rfl, rfl, rfl, rfl, hab0, hb0, Nat.le_refl _, hl0, rfl, HB.out, HS.out, HF.out⟩
    case round =>
      clear HS HB HF
      obtain ⟨a, b, l, wb, wp, d, rfl, rfl, rfl, rfl, rfl, hab, hb, hba, hl, hsd, hB, hS, hF⟩ := hrel
      have HS := Sh.mk hS
      have HB := Sh.mk hB
      have HF := Sh.mk hF
      clear hS hB hF
      by_cases h12 : b - a ≤ 12
      · have h12' : (b : Int) - (a : Int) ≤ 12 := by omega
        have HI := ins_calls g off cap c a b d wr HS.out.row (by omega) hab (by omega)
        rw [hsd] at HI
        replace HI := Sh.mk HI
        go_wp2_with (go_at_call 73; refine HI.out.mono ?_; rintro e w1 ⟨rfl, hS1⟩)
        refine bodyPost_ret (results_none rfl _ _ _) rfl ?_
        obtain ⟨q1, q2⟩ := insertionSort_holds (lt := ltInt) swo_ltInt d a b hab (by omega)
        obtain ⟨r1, r2⟩ := HF.out _ q1 q2
        exact ⟨rfl, _, r1, r2, HS.out.trans hS1⟩
      · by_cases hl00 : l = 0
        · subst hl00
          have HI := heap_calls g off cap c a b (b - a) d wr HS.out.row (by omega) (by omega) (by omega) (by omega)
          rw [hsd] at HI
          replace HI := Sh.mk HI
          go_wp2_with (go_at_call 74; refine HI.out.mono ?_; rintro e w1 ⟨rfl, hS1⟩)
          refine bodyPost_ret (results_none rfl _ _ _) rfl ?_
          obtain ⟨q1, q2⟩ := heapSort_holds (lt := ltInt) swo_ltInt d a b hab (by omega)
          obtain ⟨r1, r2⟩ := HF.out _ q1 q2
          exact ⟨rfl, _, r1, r2, HS.out.trans hS1⟩
        · have hl1 : ((l : Int) == 0) = false := by simp; omega
          go_upto_if 35 with (fail)
          go_cut [3] (fun v3 wx => ∃ (l1 : Nat) (d1 : Array Int), v3 = .int .i64 l1 ∧ l1 ≤ 100 ∧ PermIn a b d d1 ∧ St w g off cap d1 wx)
          case first =>
            cases wb with
            | true =>
              go_wp2_with fail
              go_meet
              exact ⟨l, d, rfl, hl, permIn_refl _ _ _, HS.out⟩
            | false =>
              have HI := break_calls g off cap c a (b - a) b d wr HS.out.row (by omega) (by omega) (by omega) (by omega)
              rw [hsd] at HI
              replace HI := Sh.mk HI
              go_wp2_with (go_at_call 75; refine HI.out.mono ?_; rintro e w1 ⟨rfl, d1, hp1, hS1⟩)
              go_meet
              exact ⟨l - 1, d1, by first | go_num | (congr 1; omega), by omega, hp1, HS.out.trans hS1⟩
          case rest =>
            obtain ⟨l1, d1, rfl, hl1', hp1, hS1⟩ := hcut
            have hs1 : d1.size = d0.size := hp1.1.trans hsd
            have HB1 := Sh.mk (below_perm HB.out (by omega) hp1)
            have HF1 := Sh.mk (HF.out.perm hp1)
            clear HS HB HF hp1 hsd hl hl1
            have HS := Sh.mk hS1
            clear hS1
            have HI := pivot_calls g off cap c a (b - a) d1 wc HS.out.row (by omega) (by omega) (by omega) b (by omega)
            rw [hs1] at HI
            replace HI := Sh.mk HI
            go_upto_if 50 with (go_at_call 76; refine HI.out.mono ?_; rintro e w1 ⟨p, h, rfl, hp, hpb, hh, hS1⟩)
            have HS1 := Sh.mk (HS.out.trans hS1)
            clear HS HI hS1
            have HS := HS1
            clear HS1
            go_cut [11, 12] (fun v11 v12 wx => ∃ (p h : Nat) (d2 : Array Int), v11 = .int .i64 p ∧ v12 = .int .i64 h ∧ a ≤ p ∧ p < b ∧ PermIn a b d1 d2 ∧ St w g off cap d2 wx)
            case first =>
              by_cases h2 : h = 2
              · subst h2
                have HI := rev_calls g off cap c a b d1 w1 HS.out.row (by omega) (by omega) (by omega)
                rw [hs1] at HI
                replace HI := Sh.mk HI
                go_wp2_with (go_at_call 77; refine HI.out.mono ?_; rintro e w2 ⟨rfl, hS2⟩)
                go_meet
                exact ⟨(b - 1) - (p - a), 1, _, by first | go_num | (congr 1; omega), rfl, by omega, by omega, reverseRange_holds d1 a b hab (by omega), HS.out.trans hS2⟩
              · have h2' : ((h : Int) == 2) = false := by simp; omega
                go_wp2_with fail
                go_meet
                exact ⟨p, h, d1, rfl, rfl, hp, hpb, permIn_refl _ _ _, HS.out⟩
            case rest =>
              clear HS hp hpb hh
              obtain ⟨p, h, d2, rfl, rfl, hp, hpb, hp2, hS2⟩ := hcut
              have hs2 : d2.size = d0.size := hp2.1.trans hs1
              have HB2 := Sh.mk (below_perm HB1.out (by omega) hp2)
              have HF2 := Sh.mk (HF1.out.perm hp2)
              clear HB1 HF1 hp2 hs1
              have HS := Sh.mk hS2
              clear hS2
              go_upto_region 15 with (fail)
              go_cut [68] (fun v68 wx => ∃ z : Bool, v68 = .bool z ∧ St w g off cap d2 wx)
              case first =>
                by_cases h1 : h = 1
                · subst h1
                  cases wb <;> cases wp
                  all_goals (go_wp2_with fail; go_meet; exact ⟨_, rfl, HS.out⟩)
                · have h1' : ((h : Int) == 1) = false := by simp; omega
                  cases wb <;> cases wp
                  all_goals (go_wp2_with fail; go_meet; exact ⟨_, rfl, HS.out⟩)
              case rest =>
              obtain ⟨z, rfl, hS⟩ := hcut
              clear HS
              have HS := Sh.mk hS
              clear hS
              go_upto_if 68 with (fail)
              go_cut [] (fun wx => St w g off cap d2 wx)
              case first =>
                have HI := pins_calls g off cap c a b d2 wc HS.out.row (by omega) (by omega) (by omega)
                rw [hs2] at HI
                have HP := partialInsertionSort_holds (lt := ltInt) swo_ltInt d2 a b (by omega) (by omega) HB2.out
                rw [pins_few (by omega)] at HP
                have hP2 := HP.2
                clear HP
                simp only [] at hP2
                cases z with
                | false =>
                  go_wp2_with fail
                  go_meet
                  exact HS.out
                | true =>
                  by_cases hq : scanSorted ltInt d2 b (a + 1) = b
                  · have HR := Sh.mk (HF2.out d2 (permIn_refl _ _ _) (hP2 (by simp [hq])))
                    rw [decide_eq_true hq] at HI
                    replace HI := Sh.mk HI
                    clear hP2 hq
                    go_wp2_with (go_at_call 78; refine HI.out.mono ?_; rintro e w2 ⟨rfl, hS2⟩)
                    refine bodyPost_ret (results_none rfl _ _ _) rfl ?_
                    exact ⟨rfl, d2, HR.out.1, HR.out.2, HS.out.trans hS2⟩
                  · rw [decide_eq_false hq] at HI
                    replace HI := Sh.mk HI
                    clear hP2 hq
                    go_wp2_with (go_at_call 78; refine HI.out.mono ?_; rintro e w2 ⟨rfl, hS2⟩)
                    go_meet
                    exact HS.out.trans hS2
              case rest =>
                clear HS
                have HS := Sh.mk hcut
                clear hcut
                obtain ⟨G, hG⟩ : ∃ G : Nat → Int, ∀ t, G t = d2[t]! := ⟨fun t => d2[t]!, fun _ => rfl⟩
                have hcw := fun t (ht : t < d0.size) => HS.out.row.cell (t := t) (by omega)
                simp only [← hG] at hcw
                have HG := Sh.mk hG
                clear hG
                go_upto_region 17 with (fail)
                go_cut [87] (fun v87 wx => ∃ z : Bool, v87 = .bool z ∧ (z = true → 0 < a ∧ ltInt d2[a - 1]! d2[p]! = false) ∧ St w g off cap d2 wx)
                case first =>
                  by_cases ha0 : 0 < a
                  · have ha0' : (0 : Int) < (a : Int) := by omega
                    go_quiet (first | (go_at_call 79; exact (less_calls _ _ _).mono (fun _ _ h => ⟨h.1, _, h.2⟩)))
                    go_wp2
                    go_meet
                    exact ⟨_, rfl, fun h => ⟨ha0, by rw [← HG.out, ← HG.out]; exact nb0 h⟩, HS.out.drewN _⟩
                  · have ha0' : decide ((0 : Int) < (a : Int)) = false := by simp; omega
                    go_quiet (first | (go_at_call 79; exact (less_calls _ _ _).mono (fun _ _ h => ⟨h.1, _, h.2⟩)))
                    go_wp2
                    go_meet
                    exact ⟨false, rfl, (fun h => absurd h (by simp)), HS.out.drewN _⟩
                case rest =>
                  obtain ⟨z, rfl, hz, hS⟩ := hcut
                  clear HS hcw HG
                  have HS := Sh.mk hS
                  clear hS
                  cases z with
                  | true =>
                    obtain ⟨ha0, hnl⟩ := hz rfl
                    have HI := parteq_calls g off cap c a b p d2 wc HS.out.row hp hpb (by omega) (by omega)
                    rw [hs2] at HI
                    obtain ⟨r, hr⟩ : ∃ r, r = partitionEqual ltInt d2 a b p := ⟨_, rfl⟩
                    rw [← hr] at HI
                    obtain ⟨mid, d4⟩ := r
                    obtain ⟨m1, m2, m3, m4, m5⟩ := round_eq swo_ltInt (partitionEqual_holds ltInt) ha0 hp hpb (by omega) HB2.out hnl hr.symm
                    simp only [] at HI
                    have hs4 := m3.trans hs2
                    have HF4 := Sh.mk (show Fin a0 b0 d0 mid b d4 from fun R h1 h2 => HF2.out R (m5 R h1 h2).1 (m5 R h1 h2).2)
                    have HB4 := Sh.mk m4
                    replace HI := Sh.mk HI
                    clear hz hnl hr m3 m4 m5
                    go_wp2_with (go_at_call 80; refine HI.out.mono ?_; rintro e w2 ⟨rfl, hS2⟩; have HS2 := Sh.mk (HS.out.trans hS2); clear hS2)
                    exact ⟨⟨mid, b, l1, wb, wp, d4, rfl, rfl, rfl, rfl, rfl, m2, hb, by omega, hl1', hs4, HB4.out, HS2.out, HF4.out⟩, by simp [toI]; omega⟩
                  | false =>
                    clear hz
                    have HI := part_calls g off cap c a b p d2 wc HS.out.row hp hpb (by omega) (by omega)
                    rw [hs2] at HI
                    obtain ⟨r, hr⟩ : ∃ r, r = partition ltInt d2 a b p := ⟨_, rfl⟩
                    rw [← hr] at HI
                    obtain ⟨mid, ap, d4⟩ := r
                    obtain ⟨m1, m2, m3, m4, m5, m6, m7⟩ := round_part swo_ltInt (partition_holds ltInt) hp hpb (by omega) HB2.out hr.symm
                    simp only [] at HI
                    have hs4 := m3.trans hs2
                    have HI := Sh.mk HI
                    by_cases hlr : mid - a < b - mid
                    · have hlr' : (mid : Int) - (a : Int) < (b : Int) - (mid : Int) := by omega
                      have HJ := Sh.mk (fun W (hW : St w g off cap d4 W) => IH.out a mid l1 d4 W (by omega) hW.row m1 (by omega) (by omega) hl1' m4)
                      have HM := Sh.mk m6
                      clear m3 m4 m5 m6 m7 hr
                      rw [hs4] at HJ
                      go_wp2_with (first
                        | (go_at_call 81; refine HI.out.mono ?_; rintro e w2 ⟨rfl, hS2⟩; have HS2 := Sh.mk (HS.out.trans hS2); clear hS2)
                        | (go_at_call 64; refine (HJ.out _ HS2.out).mono ?_; rintro e w3 ⟨rfl, L, hL1, hL2, hS3⟩; obtain ⟨hL3, hL4⟩ := HM.out L hL1 hL2; have HL := Sh.mk (And.intro hL1.1 (And.intro hL3 hL4)); have HS3 := Sh.mk (HS2.out.trans hS3); clear hL1 hL2 hL3 hL4 hS3))
                      have hsL := HL.out.1.trans hs4
                      exact ⟨⟨mid + 1, b, l1, _, ap, L, by go_num, rfl, rfl, rfl, rfl, by omega, hb, by omega, hl1', hsL, HL.out.2.1, HS3.out, fun R h1 h2 => HF2.out R (HL.out.2.2 R h1 h2).1 (HL.out.2.2 R h1 h2).2⟩, by simp [toI]; omega⟩
                    · have hlr' : decide ((mid : Int) - (a : Int) < (b : Int) - (mid : Int)) = false := by simp; omega
                      have HJ := Sh.mk (fun W (hW : St w g off cap d4 W) => IH.out (mid + 1) b l1 d4 W (by omega) hW.row (by omega) (by omega) (by omega) hl1' m5)
                      have HM := Sh.mk m7
                      clear m3 m4 m5 m6 m7 hr
                      rw [hs4] at HJ
                      go_wp2_with (first
                        | (go_at_call 81; refine HI.out.mono ?_; rintro e w2 ⟨rfl, hS2⟩; have HS2 := Sh.mk (HS.out.trans hS2); clear hS2)
                        | (go_at_call 64; refine (HJ.out _ HS2.out).mono ?_; rintro e w3 ⟨rfl, L, hL1, hL2, hS3⟩; obtain ⟨hL3, hL4⟩ := HM.out L hL1 hL2; have HL := Sh.mk (And.intro hL1.1 (And.intro hL3 hL4)); have HS3 := Sh.mk (HS2.out.trans hS3); clear hL1 hL2 hL3 hL4 hS3))
                      have hsL := HL.out.1.trans hs4
                      exact ⟨⟨a, mid, l1, _, ap, L, rfl, rfl, rfl, rfl, rfl, m1, by omega, by omega, hl1', hsL, HL.out.2.1, HS3.out, fun R h1 h2 => HF2.out R (HL.out.2.2 R h1 h2).1 (HL.out.2.2 R h1 h2).2⟩, by simp [toI]; omega⟩
theorem pdq_all (g off cap c : Nat) : ∀ N, Pdq g off cap c N
  | 0 => fun _ _ _ _ _ h => absurd h (Nat.not_lt_zero _)
  | N + 1 => pdq_step g off cap c N (pdq_all g off cap c N)
end Go.Proofs.Ytohginlodlijkaa.So

/-! slices.Sort of fewer than 50 numbers of type uint64: a sorted permutation in place. -/
namespace Go.Proofs.Ytohginlodlijkaa.So
open Go.RowKit Go.Sort Go.Proofs.YtohginlodlijkaaW.PrintWords
theorem row_of_own {w : World} {base g cap : Nat} {l : List Int} (h : w.ownsRow base 27 1 (.slice (some ⟨g, 0, none⟩) l.length cap) l.length (encs (Value.int .u64) l)) : base ≤ g ∧ l.length ≤ cap ∧ cap ≤ maxLen ∧ Row g 0 cap l.toArray w := by
  obtain ⟨_, ⟨hv, _⟩ | ⟨g', cap', cur, hv, hb, hh, hn, hc, hs, ht⟩⟩ := h
  · injection hv with h1; cases h1
  · injection hv with h1 _ h3
    injection h1 with h1
    injection h1 with h1
    subst h1
    subst h3
    refine ⟨hb, hn, hc, cur, hh, by omega, fun t htl => ?_⟩
    rw [List.size_toArray] at htl
    have h2 : (List.take (l.length * 1) cur.toList)[t]? = some (.int .u64 l[t]) := by rw [ht]; simp [encs, htl]
    rw [List.getElem?_take_of_lt (by omega)] at h2
    rw [Nat.zero_add, ← Array.getElem?_toList, h2]
    simp [htl]
theorem own_of_row {w : World} {base g cap : Nat} {d : Array Int} (h : Row g 0 cap d w) (hb : base ≤ g) (hn : d.size ≤ cap) (hc : cap ≤ maxLen) : w.ownsRow base 27 1 (.slice (some ⟨g, 0, none⟩) d.toList.length cap) d.toList.length (encs (Value.int .u64) d.toList) := by
  obtain ⟨cur, h1, h2, h3⟩ := h
  refine ⟨by simp [encs], .inr ⟨g, cap, cur, rfl, hb, h1, by simpa using hn, hc, by omega, ?_⟩⟩
  apply List.ext_getElem?
  intro t
  by_cases ht : t < d.size
  · rw [List.getElem?_take_of_lt (by simpa using ht), Array.getElem?_toList]
    have := h3 t ht
    rw [Nat.zero_add] at this
    rw [this]
    simp [encs, ht]
  · rw [List.getElem?_eq_none (by simp; omega), List.getElem?_eq_none (by simp [encs]; omega)]
set_option maxHeartbeats 8000000 in
set_option maxRecDepth 100000 in
theorem ins_none (w : World) : Calls Try.prog 73 #[.slice none 0 0, .int .i64 0, .int .i64 0] w fun e w' => e = .returned (.tuple #[]) ∧ w' = w := by
  go_enter Try.func73, Try.ntmps73
  go_wp2
  go_loopw [6] (fun vi wr => vi = .int .i64 1 ∧ wr = w) (fun _ _ => 0)
  case atStart => exact ⟨rfl, rfl⟩
  case round =>
    obtain ⟨rfl, rfl⟩ := hrel
    go_wp2
    go_end0
    exact ⟨rfl, rfl⟩
set_option maxHeartbeats 8000000 in
set_option maxRecDepth 100000 in
theorem pdq_none (l : Int) (w : World) : Calls Try.prog 64 #[.slice none 0 0, .int .i64 0, .int .i64 0, .int .i64 l] w fun e w' => e = .returned (.tuple #[]) ∧ w' = w := by
  go_enter Try.func64, Try.ntmps64
  go_wp2
  go_loopw [1, 2] (fun va vb wr => va = .int .i64 0 ∧ vb = .int .i64 0 ∧ wr = w) (fun _ _ _ => 0)
  case atStart => exact ⟨rfl, rfl, rfl⟩
  case round =>
    obtain ⟨rfl, rfl, rfl⟩ := hrel
    go_wp2_with (go_at_call 73; refine (ins_none _).mono ?_; rintro e w1 ⟨rfl, rfl⟩)
    refine bodyPost_ret (results_none rfl _ _ _) rfl ?_
    exact ⟨rfl, rfl⟩
set_option maxHeartbeats 8000000 in
set_option maxRecDepth 100000 in
theorem sort_none (w : World) : Calls Try.prog 38 #[.slice none 0 0] w fun e w' => e = .returned (.tuple #[]) ∧ w' = w := by
  go_enter Try.func38, Try.ntmps38
  go_wp2_with (first
    | (go_at_call 65; refine (blen_calls 0 (by omega) (by omega) _).mono ?_; rintro e w1 ⟨⟨r, rfl, hr, _⟩, rfl⟩)
    | (go_at_call 64; refine (pdq_none _ _).mono ?_; rintro e w2 ⟨rfl, rfl⟩))
  go_end0
  exact ⟨rfl, rfl⟩
set_option maxHeartbeats 8000000 in
set_option maxRecDepth 100000 in
theorem sort_some (g cap c : Nat) (d : Array Int) (w : World) (hR : Row g 0 cap d w) (hd : d.size < 50) : Calls Try.prog 38 #[.slice (some ⟨g, 0, none⟩) d.size c] w fun e w' => e = .returned (.tuple #[]) ∧ ∃ d', PermIn 0 d.size d d' ∧ SortedIn ltInt 0 d.size d' ∧ St w g 0 cap d' w' := by
  have HI := Sh.mk (fun (l : Nat) (hl : l ≤ 8) => pdq_all g 0 cap c (d.size + 1) 0 d.size l d w (by omega) hR (Nat.zero_le _) (Nat.le_refl _) hd (by omega) (.inl rfl))
  clear hR
  go_enter Try.func38, Try.ntmps38
  go_wp2_with (first
    | (go_at_call 65; refine (blen_calls (d.size : Int) (by omega) (by omega) _).mono ?_; rintro e w1 ⟨⟨r, rfl, hr, _⟩, rfl⟩)
    | (go_at_call 64; refine (HI.out _ hr).mono ?_; rintro e w2 ⟨rfl, hS2⟩))
  go_end0
  exact ⟨rfl, hS2⟩
/-- slices.Sort of an owned row. -/
theorem sort_calls (A : Option Addr) (cap : Nat) (l : List Int) (w0 w : World) (hB : Go.RowKit.Below w0.heap.size w0 w) (ho : Kd.R (Kd.int .u64) 27 w w0.heap.size (fun _ => True) (.slice A l.length cap) l) (hl : l.length < 50) :
    Calls Try.prog 38 #[.slice A l.length cap] w fun e w' => e = .returned (.tuple #[]) ∧ ∃ r : List Int, r.Perm l ∧ r.Pairwise (· ≤ ·) ∧ Kd.R (Kd.int .u64) 27 w' w0.heap.size (fun _ => True) (.slice A l.length cap) r ∧ Go.RowKit.Below w0.heap.size w0 w' := by
  have hown := Kd.own_of_R ho
  cases A with
  | none =>
    obtain ⟨h1, ⟨hv, h2⟩ | ⟨g', cap', cur, hv, _⟩⟩ := hown
    · injection hv with _ _ h3
      subst h3
      obtain rfl : l = [] := List.length_eq_zero_iff.1 h2
      refine (sort_none w).mono ?_
      rintro e w' ⟨rfl, rfl⟩
      exact ⟨rfl, [], List.Perm.refl _, List.Pairwise.nil, ho, hB⟩
    · injection hv with h3; cases h3
  | some ad =>
    obtain ⟨g, rfl⟩ : ∃ g, ad = ⟨g, 0, none⟩ := by
      obtain ⟨h1, ⟨hv, h2⟩ | ⟨g', cap', cur, hv, _⟩⟩ := hown
      · injection hv with h3; cases h3
      · injection hv with h3; injection h3 with h3; exact ⟨g', h3⟩
    obtain ⟨hb, hn, hc, hR⟩ := row_of_own hown
    have hS := sort_some g cap cap l.toArray w hR (by simpa using hl)
    rw [List.size_toArray] at hS
    refine hS.mono ?_
    rintro e w' ⟨rfl, d', hP, hO, hSt⟩
    have hsz : d'.size = l.length := by simpa using hP.1
    have hperm : d'.toList.Perm l := by
      have := hP.2.2
      rw [extract_toList _ _ _ (by omega), extract_toList _ _ _ (by simp)] at this
      have e1 : ∀ a : Array Int, (List.range' 0 (a.size - 0)).map (fun i => a[i]!) = a.toList := fun a => by
        rw [← extract_toList a 0 a.size (Nat.le_refl _)]
        simp
      have e2 := e1 d'
      have e3 := e1 l.toArray
      rw [hsz] at e2
      rw [List.size_toArray] at e3
      rw [e2, e3] at this
      simpa using this
    have hlen : d'.toList.length = l.length := by simpa using hsz
    refine ⟨rfl, d'.toList, hperm, ?_, ?_, ?_⟩
    · rw [List.pairwise_iff_getElem]
      intro i j hi hj hij
      have := hO i j (Nat.zero_le _) hij (by simpa [hsz] using hj)
      simp [ltInt] at this hi hj
      simpa [hi, hj] using this
    · have := own_of_row hSt.row hb (by omega) hc
      rw [← hlen]
      exact Kd.R_of_own this (fun _ _ => trivial)
    · exact hB.trans ⟨hSt.kp.os, hSt.kp.tape, hSt.kp.output, hSt.kp.size, fun k hk => hSt.kp.rest k (Nat.lt_of_lt_of_le hk hB.size) (by omega)⟩
end Go.Proofs.Ytohginlodlijkaa.So
