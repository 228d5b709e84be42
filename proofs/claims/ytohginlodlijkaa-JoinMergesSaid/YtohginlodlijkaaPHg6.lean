/- The document: how many counts are above one; the cut (printed). -/
import Derived.Test.YtohginlodlijkaaPHg0
namespace Go.Proofs.Ytohginlodlijkaa.PH
open Go.RowKit Go.Proofs.YtohginlodlijkaaW.PrintWords Go.Proofs.YtohginlodlijkaaW.PrintLast Go.Proofs.YtohginlodlijkaaW.PrintMore
attribute [local go_sem] max2_int min2_int max_two min_two max_three min_three max_four min_four   -- for this text's walks alone
set_option linter.unusedVariables false
set_option linter.unusedSimpArgs false

/-! ### skylightref18_above: function 67 -/
def skylightref18_above.l0 : Nat → List (S51) → Int → Int → Int → Option (Int)
  | 0, _, _, _, _ => none
  | k + 1, x0, x1, x5, x6 => if x6 < (x0.length : Int) then (if 0 ≤ x6 then (if 0 ≤ x1 then (if x1 < (x0.length : Int) then (if ((rd_T51 x0 x6).f1) > ((rd_T51 x0 x1).f1) then (skylightref18_above.l0 k x0 x1 (wrap64 (x5 + 1)) (wrap64 (x6 + 1))) else (if ((rd_T51 x0 x6).f1) = ((rd_T51 x0 x1).f1) then (if x6 < x1 then (skylightref18_above.l0 k x0 x1 (wrap64 (x5 + 1)) (wrap64 (x6 + 1))) else (skylightref18_above.l0 k x0 x1 x5 (wrap64 (x6 + 1)))) else (skylightref18_above.l0 k x0 x1 x5 (wrap64 (x6 + 1))))) else (none)) else (none)) else (none)) else (some x5)
def skylightref18_above.f (k : Nat) (l0 : List (S51)) (a1 : Int) : Option (Int) := skylightref18_above.l0 k l0 a1 0 0
theorem skylightref18_above.mono_l : ∀ k, (∀ y0 y1 y2 y3, LeO (skylightref18_above.l0 k y0 y1 y2 y3) (skylightref18_above.l0 (k + 1) y0 y1 y2 y3))
  | 0 => fun _ _ _ _ r h => by simp [skylightref18_above.l0] at h
  | k + 1 => by
    have ih0 := skylightref18_above.mono_l k
    · intro y0 y1 y2 y3
      unfold skylightref18_above.l0
      repeat' first
      | (with_reducible exact ih0 _ _ _ _)
      | (with_reducible exact LeO.refl _)
      | (with_reducible exact LeO.none _)
      | (with_reducible refine LeO.ite ?_ ?_)
      | (with_reducible refine LeO.bind ?_ (fun _ => ?_))
      | exact ih0 _ _ _ _
      | exact LeO.none _
      | refine LeO.ite ?_ ?_
      | refine LeO.bind ?_ (fun _ => ?_)
theorem skylightref18_above.mono : ∀ a0 a1 k, LeO (skylightref18_above.f k a0 a1) (skylightref18_above.f (k + 1) a0 a1) := by
  intro a0 a1 k
  have ih0 := skylightref18_above.mono_l k
  unfold skylightref18_above.f
  repeat' first
      | (with_reducible exact ih0 _ _ _ _)
      | (with_reducible exact LeO.refl _)
      | (with_reducible exact LeO.none _)
      | (with_reducible refine LeO.ite ?_ ?_)
      | (with_reducible refine LeO.bind ?_ (fun _ => ?_))
      | exact ih0 _ _ _ _
      | exact LeO.none _
      | refine LeO.ite ?_ ?_
      | refine LeO.bind ?_ (fun _ => ?_)
set_option maxHeartbeats 8000000 in
set_option maxRecDepth 100000 in
theorem skylightref18_above.calls (k : Nat) (A0 : Option Addr) (c0 : Nat) (l0 : List (S51)) (a1 : Int) (r : Int) (w : World) (hr0 : Kd.C k51 w A0 l0.length l0) (hc0 : l0.length ≤ c0) (h : skylightref18_above.f k l0 a1 = some r) :
    Calls Try.prog 67 #[.slice A0 l0.length c0, .int .i64 a1] w fun e w' => e = .returned (.int .i64 r) ∧ Drawn0 w w' := by
  have HR0 := Aside0.mk hr0
  have HC0 := Aside0.mk hc0
  clear hr0 hc0
  have H : (skylightref18_above.l0 k l0 a1 0 0) = some r := h
  clear h
  have H' := Aside0.mk H
  clear H
  go_enter Try.func67, Try.ntmps67
  go_wp2
  repeat (go_quiet (fail); try go_wp2)
  go_loopg [5, 6] k (fun kq v5 v6 w' => ∃ (x5_1 : Int) (x6_1 : Int), v5 = .int .i64 x5_1 ∧ v6 = .int .i64 x6_1 ∧ Aside0 (skylightref18_above.l0 kq l0 a1 x5_1 x6_1 = some r) ∧ Aside0 (kq ≤ k) ∧ Drawn0 w w')
  case atStart => exact ⟨(0), (0), (by first | rfl | (simp; done) | (simp [*]; done)), (by first | rfl | (simp; done) | (simp [*]; done)), H', ⟨Nat.le_refl _⟩, by repeat (first | exact Drawn0.refl _ | apply Drawn0.step)⟩
  case round =>
    clear H'
    try clear p2
    obtain ⟨x5_1, x6_1, rfl, rfl, HA, HK1, ⟨m1, rfl⟩⟩ := hrel
    cases gk with
    | zero => exact absurd HA.out (by simp [skylightref18_above.l0])
    | succ k1 =>
      have H := HA.out
      clear HA
      simp only [skylightref18_above.l0] at H
      by_cases c3 : x6_1 < (l0.length : Int)
      · rw [if_pos c3] at H
        have c3b0 : decide (x6_1 < (l0.length : Int)) = true := decide_eq_true c3
        clear c3
        by_cases c4 : 0 ≤ x6_1
        · rw [if_pos c4] at H
          have c4b0 : decide (0 ≤ x6_1) = true := decide_eq_true c4
          clear c4
          by_cases c5 : 0 ≤ a1
          · rw [if_pos c5] at H
            have c5b0 : decide (0 ≤ a1) = true := decide_eq_true c5
            clear c5
            by_cases c6 : a1 < (l0.length : Int)
            · rw [if_pos c6] at H
              have c6b0 : decide (a1 < (l0.length : Int)) = true := decide_eq_true c6
              clear c6
              by_cases c7 : ((rd_T51 l0 x6_1).f1) > ((rd_T51 l0 a1).f1)
              · rw [if_pos c7] at H
                have c7b0 : decide (((rd_T51 l0 a1).f1) < ((rd_T51 l0 x6_1).f1)) = true := decide_eq_true c7
                clear c7
                have H' := Aside0.mk H
                clear H
                have p231 : 0 ≤ (x6_1 : Int) := of_decide_eq_true (by first | (with_reducible assumption) | assumption)
                have q231 : x6_1 < (l0.length : Int) := of_decide_eq_true (by first | (with_reducible assumption) | assumption)
                obtain ⟨ad231, e231, hx231_0, hx231_1⟩ := at_T51 HR0.out x6_1 p231 q231
                cases e231
                replace p231 := eq_true p231
                replace q231 := eq_true q231
                have p232 : 0 ≤ (a1 : Int) := of_decide_eq_true (by first | (with_reducible assumption) | assumption)
                have q232 : a1 < (l0.length : Int) := of_decide_eq_true (by first | (with_reducible assumption) | assumption)
                obtain ⟨ad232, e232, hx232_0, hx232_1⟩ := at_T51 HR0.out a1 p232 q232
                obtain rfl : ad231 = ad232 := (by injection e232)
                replace p232 := eq_true p232
                replace q232 := eq_true q232
                go_wp2
                repeat (go_quiet (fail); try go_wp2)
                go_roundg k1
                case measure => have := HK1.out; omega
                case rel => exact ⟨(wrap64 (x5_1 + 1)), (wrap64 (x6_1 + 1)), (by first | rfl | (simp; done) | (simp [*]; done)), (by first | rfl | (simp; done) | (simp [*]; done)), H', ⟨by have := HK1.out; omega⟩, by repeat (first | exact Drawn0.refl _ | apply Drawn0.step)⟩
              · rw [if_neg c7] at H
                have c7b0 : decide (((rd_T51 l0 a1).f1) < ((rd_T51 l0 x6_1).f1)) = false := decide_eq_false c7
                clear c7
                by_cases c8 : ((rd_T51 l0 x6_1).f1) = ((rd_T51 l0 a1).f1)
                · rw [if_pos c8] at H
                  have c8b0 : (((rd_T51 l0 x6_1).f1) == ((rd_T51 l0 a1).f1)) = true := beq_iff_eq.mpr c8
                  have c8b1 : (((rd_T51 l0 x6_1).f1) != ((rd_T51 l0 a1).f1)) = false := bne_eq_false_iff_eq.mpr c8
                  clear c8
                  by_cases c9 : x6_1 < a1
                  · rw [if_pos c9] at H
                    have c9b0 : decide (x6_1 < a1) = true := decide_eq_true c9
                    clear c9
                    have H' := Aside0.mk H
                    clear H
                    have p231 : 0 ≤ (x6_1 : Int) := of_decide_eq_true (by first | (with_reducible assumption) | assumption)
                    have q231 : x6_1 < (l0.length : Int) := of_decide_eq_true (by first | (with_reducible assumption) | assumption)
                    obtain ⟨ad231, e231, hx231_0, hx231_1⟩ := at_T51 HR0.out x6_1 p231 q231
                    cases e231
                    replace p231 := eq_true p231
                    replace q231 := eq_true q231
                    have p232 : 0 ≤ (a1 : Int) := of_decide_eq_true (by first | (with_reducible assumption) | assumption)
                    have q232 : a1 < (l0.length : Int) := of_decide_eq_true (by first | (with_reducible assumption) | assumption)
                    obtain ⟨ad232, e232, hx232_0, hx232_1⟩ := at_T51 HR0.out a1 p232 q232
                    obtain rfl : ad231 = ad232 := (by injection e232)
                    replace p232 := eq_true p232
                    replace q232 := eq_true q232
                    have p233 : 0 ≤ (x6_1 : Int) := of_decide_eq_true (by first | (with_reducible assumption) | assumption)
                    have q233 : x6_1 < (l0.length : Int) := of_decide_eq_true (by first | (with_reducible assumption) | assumption)
                    obtain ⟨ad233, e233, hx233_0, hx233_1⟩ := at_T51 HR0.out x6_1 p233 q233
                    obtain rfl : ad231 = ad233 := (by injection e233)
                    replace p233 := eq_true p233
                    replace q233 := eq_true q233
                    have p234 : 0 ≤ (a1 : Int) := of_decide_eq_true (by first | (with_reducible assumption) | assumption)
                    have q234 : a1 < (l0.length : Int) := of_decide_eq_true (by first | (with_reducible assumption) | assumption)
                    obtain ⟨ad234, e234, hx234_0, hx234_1⟩ := at_T51 HR0.out a1 p234 q234
                    obtain rfl : ad231 = ad234 := (by injection e234)
                    replace p234 := eq_true p234
                    replace q234 := eq_true q234
                    go_wp2
                    repeat (go_quiet (fail); try go_wp2)
                    go_roundg k1
                    case measure => have := HK1.out; omega
                    case rel => exact ⟨(wrap64 (x5_1 + 1)), (wrap64 (x6_1 + 1)), (by first | rfl | (simp; done) | (simp [*]; done)), (by first | rfl | (simp; done) | (simp [*]; done)), H', ⟨by have := HK1.out; omega⟩, by repeat (first | exact Drawn0.refl _ | apply Drawn0.step)⟩
                  · rw [if_neg c9] at H
                    have c9b0 : decide (x6_1 < a1) = false := decide_eq_false c9
                    clear c9
                    have H' := Aside0.mk H
                    clear H
                    have p231 : 0 ≤ (x6_1 : Int) := of_decide_eq_true (by first | (with_reducible assumption) | assumption)
                    have q231 : x6_1 < (l0.length : Int) := of_decide_eq_true (by first | (with_reducible assumption) | assumption)
                    obtain ⟨ad231, e231, hx231_0, hx231_1⟩ := at_T51 HR0.out x6_1 p231 q231
                    cases e231
                    replace p231 := eq_true p231
                    replace q231 := eq_true q231
                    have p232 : 0 ≤ (a1 : Int) := of_decide_eq_true (by first | (with_reducible assumption) | assumption)
                    have q232 : a1 < (l0.length : Int) := of_decide_eq_true (by first | (with_reducible assumption) | assumption)
                    obtain ⟨ad232, e232, hx232_0, hx232_1⟩ := at_T51 HR0.out a1 p232 q232
                    obtain rfl : ad231 = ad232 := (by injection e232)
                    replace p232 := eq_true p232
                    replace q232 := eq_true q232
                    have p233 : 0 ≤ (x6_1 : Int) := of_decide_eq_true (by first | (with_reducible assumption) | assumption)
                    have q233 : x6_1 < (l0.length : Int) := of_decide_eq_true (by first | (with_reducible assumption) | assumption)
                    obtain ⟨ad233, e233, hx233_0, hx233_1⟩ := at_T51 HR0.out x6_1 p233 q233
                    obtain rfl : ad231 = ad233 := (by injection e233)
                    replace p233 := eq_true p233
                    replace q233 := eq_true q233
                    have p234 : 0 ≤ (a1 : Int) := of_decide_eq_true (by first | (with_reducible assumption) | assumption)
                    have q234 : a1 < (l0.length : Int) := of_decide_eq_true (by first | (with_reducible assumption) | assumption)
                    obtain ⟨ad234, e234, hx234_0, hx234_1⟩ := at_T51 HR0.out a1 p234 q234
                    obtain rfl : ad231 = ad234 := (by injection e234)
                    replace p234 := eq_true p234
                    replace q234 := eq_true q234
                    go_wp2
                    repeat (go_quiet (fail); try go_wp2)
                    go_roundg k1
                    case measure => have := HK1.out; omega
                    case rel => exact ⟨(x5_1), (wrap64 (x6_1 + 1)), (by first | rfl | (simp; done) | (simp [*]; done)), (by first | rfl | (simp; done) | (simp [*]; done)), H', ⟨by have := HK1.out; omega⟩, by repeat (first | exact Drawn0.refl _ | apply Drawn0.step)⟩
                · rw [if_neg c8] at H
                  have c8b0 : (((rd_T51 l0 x6_1).f1) == ((rd_T51 l0 a1).f1)) = false := beq_eq_false_iff_ne.mpr c8
                  have c8b1 : (((rd_T51 l0 x6_1).f1) != ((rd_T51 l0 a1).f1)) = true := bne_iff_ne.mpr c8
                  have H' := Aside0.mk H
                  clear H
                  have p231 : 0 ≤ (x6_1 : Int) := of_decide_eq_true (by first | (with_reducible assumption) | assumption)
                  have q231 : x6_1 < (l0.length : Int) := of_decide_eq_true (by first | (with_reducible assumption) | assumption)
                  obtain ⟨ad231, e231, hx231_0, hx231_1⟩ := at_T51 HR0.out x6_1 p231 q231
                  cases e231
                  replace p231 := eq_true p231
                  replace q231 := eq_true q231
                  have p232 : 0 ≤ (a1 : Int) := of_decide_eq_true (by first | (with_reducible assumption) | assumption)
                  have q232 : a1 < (l0.length : Int) := of_decide_eq_true (by first | (with_reducible assumption) | assumption)
                  obtain ⟨ad232, e232, hx232_0, hx232_1⟩ := at_T51 HR0.out a1 p232 q232
                  obtain rfl : ad231 = ad232 := (by injection e232)
                  replace p232 := eq_true p232
                  replace q232 := eq_true q232
                  have p233 : 0 ≤ (x6_1 : Int) := of_decide_eq_true (by first | (with_reducible assumption) | assumption)
                  have q233 : x6_1 < (l0.length : Int) := of_decide_eq_true (by first | (with_reducible assumption) | assumption)
                  obtain ⟨ad233, e233, hx233_0, hx233_1⟩ := at_T51 HR0.out x6_1 p233 q233
                  obtain rfl : ad231 = ad233 := (by injection e233)
                  replace p233 := eq_true p233
                  replace q233 := eq_true q233
                  have p234 : 0 ≤ (a1 : Int) := of_decide_eq_true (by first | (with_reducible assumption) | assumption)
                  have q234 : a1 < (l0.length : Int) := of_decide_eq_true (by first | (with_reducible assumption) | assumption)
                  obtain ⟨ad234, e234, hx234_0, hx234_1⟩ := at_T51 HR0.out a1 p234 q234
                  obtain rfl : ad231 = ad234 := (by injection e234)
                  replace p234 := eq_true p234
                  replace q234 := eq_true q234
                  go_wp2
                  repeat (go_quiet (fail); try go_wp2)
                  go_roundg k1
                  case measure => have := HK1.out; omega
                  case rel => exact ⟨(x5_1), (wrap64 (x6_1 + 1)), (by first | rfl | (simp; done) | (simp [*]; done)), (by first | rfl | (simp; done) | (simp [*]; done)), H', ⟨by have := HK1.out; omega⟩, by repeat (first | exact Drawn0.refl _ | apply Drawn0.step)⟩
            · rw [if_neg c6] at H
              exact absurd H (by simp)
          · rw [if_neg c5] at H
            exact absurd H (by simp)
        · rw [if_neg c4] at H
          exact absurd H (by simp)
      · rw [if_neg c3] at H
        have c3b0 : decide (x6_1 < (l0.length : Int)) = false := decide_eq_false c3
        clear c3
        obtain rfl := Option.some.inj H
        go_wp2
        repeat (go_quiet (fail); try go_wp2)
        go_ret
        exact ⟨by first | rfl | (simp; done) | (simp [*]; done), by repeat (first | exact Drawn0.refl _ | apply Drawn0.step)⟩

/-! ### skylightref18_cut: function 42 -/
def skylightref18_cut.l0 : Nat → List (S51) → Int → Int → Option (Int)
  | 0, _, _, _ => none
  | k + 1, x0, x1, x5 => if x5 < (x0.length : Int) then ((skylightref18_above.f k x0 x5).bind fun t235 => (if t235 = x1 then (if 0 ≤ x5 then (some ((rd_T51 x0 x5).f1)) else (none)) else (skylightref18_cut.l0 k x0 x1 (wrap64 (x5 + 1))))) else (some 0)
def skylightref18_cut.f (k : Nat) (l0 : List (S51)) (a1 : Int) : Option (Int) := skylightref18_cut.l0 k l0 a1 0
theorem skylightref18_cut.mono_l : ∀ k, (∀ y0 y1 y2, LeO (skylightref18_cut.l0 k y0 y1 y2) (skylightref18_cut.l0 (k + 1) y0 y1 y2))
  | 0 => fun _ _ _ r h => by simp [skylightref18_cut.l0] at h
  | k + 1 => by
    have ih0 := skylightref18_cut.mono_l k
    · intro y0 y1 y2
      unfold skylightref18_cut.l0
      repeat' first
      | (with_reducible exact ih0 _ _ _)
      | (with_reducible exact skylightref18_above.mono _ _ _)
      | (with_reducible exact LeO.refl _)
      | (with_reducible exact LeO.none _)
      | (with_reducible refine LeO.ite ?_ ?_)
      | (with_reducible refine LeO.bind ?_ (fun _ => ?_))
      | exact ih0 _ _ _
      | exact skylightref18_above.mono _ _ _
      | exact LeO.none _
      | refine LeO.ite ?_ ?_
      | refine LeO.bind ?_ (fun _ => ?_)
theorem skylightref18_cut.mono : ∀ a0 a1 k, LeO (skylightref18_cut.f k a0 a1) (skylightref18_cut.f (k + 1) a0 a1) := by
  intro a0 a1 k
  have ih0 := skylightref18_cut.mono_l k
  unfold skylightref18_cut.f
  repeat' first
      | (with_reducible exact ih0 _ _ _)
      | (with_reducible exact skylightref18_above.mono _ _ _)
      | (with_reducible exact LeO.refl _)
      | (with_reducible exact LeO.none _)
      | (with_reducible refine LeO.ite ?_ ?_)
      | (with_reducible refine LeO.bind ?_ (fun _ => ?_))
      | exact ih0 _ _ _
      | exact skylightref18_above.mono _ _ _
      | exact LeO.none _
      | refine LeO.ite ?_ ?_
      | refine LeO.bind ?_ (fun _ => ?_)
set_option maxHeartbeats 8000000 in
set_option maxRecDepth 100000 in
theorem skylightref18_cut.calls (k : Nat) (A0 : Option Addr) (c0 : Nat) (l0 : List (S51)) (a1 : Int) (r : Int) (w : World) (hr0 : Kd.C k51 w A0 l0.length l0) (hc0 : l0.length ≤ c0) (h : skylightref18_cut.f k l0 a1 = some r) :
    Calls Try.prog 42 #[.slice A0 l0.length c0, .int .i64 a1] w fun e w' => e = .returned (.int .u64 r) ∧ Drawn0 w w' := by
  have HR0 := Aside0.mk hr0
  have HC0 := Aside0.mk hc0
  clear hr0 hc0
  have H : (skylightref18_cut.l0 k l0 a1 0) = some r := h
  clear h
  have H' := Aside0.mk H
  clear H
  go_enter Try.func42, Try.ntmps42
  go_wp2
  go_loopg [5] k (fun kq v5 w' => ∃ (x5_1 : Int), v5 = .int .i64 x5_1 ∧ Aside0 (skylightref18_cut.l0 kq l0 a1 x5_1 = some r) ∧ Aside0 (kq ≤ k) ∧ Drawn0 w w')
  case atStart => exact ⟨(0), (by first | rfl | (simp; done) | (simp [*]; done)), H', ⟨Nat.le_refl _⟩, by repeat (first | exact Drawn0.refl _ | apply Drawn0.step)⟩
  case round =>
    clear H'
    try clear p2
    obtain ⟨x5_1, rfl, HA, HK1, ⟨m1, rfl⟩⟩ := hrel
    cases gk with
    | zero => exact absurd HA.out (by simp [skylightref18_cut.l0])
    | succ k1 =>
      have H := HA.out
      clear HA
      simp only [skylightref18_cut.l0] at H
      by_cases c3 : x5_1 < (l0.length : Int)
      · rw [if_pos c3] at H
        have c3b0 : decide (x5_1 < (l0.length : Int)) = true := decide_eq_true c3
        clear c3
        replace H := Option.bind_eq_some_iff.mp H
        obtain ⟨t235, A40, H⟩ := H
        replace H : (if t235 = a1 then (if 0 ≤ x5_1 then (some ((rd_T51 l0 x5_1).f1)) else (none)) else (skylightref18_cut.l0 k1 l0 a1 (wrap64 (x5_1 + 1)))) = some r := H
        have A4 := Aside0.mk A40
        clear A40
        by_cases c5 : t235 = a1
        · rw [if_pos c5] at H
          have c5b0 : (t235 == a1) = true := beq_iff_eq.mpr c5
          have c5b1 : (t235 != a1) = false := bne_eq_false_iff_eq.mpr c5
          clear c5
          by_cases c6 : 0 ≤ x5_1
          · rw [if_pos c6] at H
            have c6b0 : decide (0 ≤ x5_1) = true := decide_eq_true c6
            clear c6
            obtain rfl := Option.some.inj H
            go_wp2_with (first | ((with_reducible refine gate_callee (f := 67) rfl ?_); refine goesL_ (some 14) rfl rfl Try.func67 (by kernel_rfl) rfl #[.slice A0 l0.length c0, .int .i64 x5_1] rfl (by (try simp only [List.map_toArray, List.map_cons, List.map_nil]); first | done | rfl | (simp only [List.length_drop, List.length_take]; rfl)) ?_; (with_reducible refine (skylightref18_above.calls k1 _ _ l0 x5_1 t235 _ ?side1 ?side2 A4.out).mono ?_); (case side1 => repeat (first | exact HR0.out | (with_reducible refine Kd.C_alloc ?_ _) | (with_reducible refine Kd.C_drewN ?_ _) | (with_reducible refine Kd.C_drew ?_))); (case side2 => exact HC0.out); rintro e w' ⟨rfl, ⟨nd, rfl⟩⟩; refine ⟨_, rfl, ?_⟩; have p236 : 0 ≤ (x5_1 : Int) := of_decide_eq_true (by first | (with_reducible assumption) | assumption); have q236 : x5_1 < (l0.length : Int) := of_decide_eq_true (by first | (with_reducible assumption) | assumption); obtain ⟨ad236, e236, hx236_0, hx236_1⟩ := at_T51 HR0.out x5_1 p236 q236; cases e236; replace p236 := eq_true p236; replace q236 := eq_true q236))
            go_ret
            exact ⟨by first | rfl | (simp; done) | (simp [*]; done), by repeat (first | exact Drawn0.refl _ | apply Drawn0.step)⟩
          · rw [if_neg c6] at H
            exact absurd H (by simp)
        · rw [if_neg c5] at H
          have c5b0 : (t235 == a1) = false := beq_eq_false_iff_ne.mpr c5
          have c5b1 : (t235 != a1) = true := bne_iff_ne.mpr c5
          have H' := Aside0.mk H
          clear H
          go_wp2_with (first | ((with_reducible refine gate_callee (f := 67) rfl ?_); refine goesL_ (some 14) rfl rfl Try.func67 (by kernel_rfl) rfl #[.slice A0 l0.length c0, .int .i64 x5_1] rfl (by (try simp only [List.map_toArray, List.map_cons, List.map_nil]); first | done | rfl | (simp only [List.length_drop, List.length_take]; rfl)) ?_; (with_reducible refine (skylightref18_above.calls k1 _ _ l0 x5_1 t235 _ ?side1 ?side2 A4.out).mono ?_); (case side1 => repeat (first | exact HR0.out | (with_reducible refine Kd.C_alloc ?_ _) | (with_reducible refine Kd.C_drewN ?_ _) | (with_reducible refine Kd.C_drew ?_))); (case side2 => exact HC0.out); rintro e w' ⟨rfl, ⟨nd, rfl⟩⟩; refine ⟨_, rfl, ?_⟩))
          go_roundg k1
          case measure => have := HK1.out; omega
          case rel => exact ⟨(wrap64 (x5_1 + 1)), (by first | rfl | (simp; done) | (simp [*]; done)), H', ⟨by have := HK1.out; omega⟩, by repeat (first | exact Drawn0.refl _ | apply Drawn0.step)⟩
      · rw [if_neg c3] at H
        have c3b0 : decide (x5_1 < (l0.length : Int)) = false := decide_eq_false c3
        clear c3
        obtain rfl := Option.some.inj H
        go_wp2
        go_ret
        exact ⟨by first | rfl | (simp; done) | (simp [*]; done), by repeat (first | exact Drawn0.refl _ | apply Drawn0.step)⟩

end Go.Proofs.Ytohginlodlijkaa.PH
