/- The document: where a key stands; a key put; all keys (printed). -/
import Derived.Test.YtohginlodlijkaaPHg0
namespace Go.Proofs.Ytohginlodlijkaa.PH
open Go.RowKit Go.Proofs.YtohginlodlijkaaW.PrintWords Go.Proofs.YtohginlodlijkaaW.PrintLast Go.Proofs.YtohginlodlijkaaW.PrintMore
attribute [local go_sem] max2_int min2_int max_two min_two max_three min_three max_four min_four   -- for this text's walks alone
set_option linter.unusedVariables false
set_option linter.unusedSimpArgs false

/-! ### skylightref13_place: function 71 -/
def skylightref13_place.l0 : Nat → List (S51) → Int → Int → Option (Int)
  | 0, _, _, _ => none
  | k + 1, x0, x1, x5 => if x5 < (x0.length : Int) then (if 0 ≤ x5 then (if ((rd_T51 x0 x5).f0) < x1 then (skylightref13_place.l0 k x0 x1 (wrap64 (x5 + 1))) else (some x5)) else (none)) else (some x5)
def skylightref13_place.f (k : Nat) (l0 : List (S51)) (a1 : Int) : Option (Int) := skylightref13_place.l0 k l0 a1 0
theorem skylightref13_place.mono_l : ∀ k, (∀ y0 y1 y2, LeO (skylightref13_place.l0 k y0 y1 y2) (skylightref13_place.l0 (k + 1) y0 y1 y2))
  | 0 => fun _ _ _ r h => by simp [skylightref13_place.l0] at h
  | k + 1 => by
    have ih0 := skylightref13_place.mono_l k
    · intro y0 y1 y2
      unfold skylightref13_place.l0
      repeat' first
      | (with_reducible exact ih0 _ _ _)
      | (with_reducible exact LeO.refl _)
      | (with_reducible exact LeO.none _)
      | (with_reducible refine LeO.ite ?_ ?_)
      | (with_reducible refine LeO.bind ?_ (fun _ => ?_))
      | exact ih0 _ _ _
      | exact LeO.none _
      | refine LeO.ite ?_ ?_
      | refine LeO.bind ?_ (fun _ => ?_)
theorem skylightref13_place.mono : ∀ a0 a1 k, LeO (skylightref13_place.f k a0 a1) (skylightref13_place.f (k + 1) a0 a1) := by
  intro a0 a1 k
  have ih0 := skylightref13_place.mono_l k
  unfold skylightref13_place.f
  repeat' first
      | (with_reducible exact ih0 _ _ _)
      | (with_reducible exact LeO.refl _)
      | (with_reducible exact LeO.none _)
      | (with_reducible refine LeO.ite ?_ ?_)
      | (with_reducible refine LeO.bind ?_ (fun _ => ?_))
      | exact ih0 _ _ _
      | exact LeO.none _
      | refine LeO.ite ?_ ?_
      | refine LeO.bind ?_ (fun _ => ?_)
set_option maxHeartbeats 8000000 in
set_option maxRecDepth 100000 in
theorem skylightref13_place.calls (k : Nat) (A0 : Option Addr) (c0 : Nat) (l0 : List (S51)) (a1 : Int) (r : Int) (w : World) (hr0 : Kd.C k51 w A0 l0.length l0) (hc0 : l0.length ≤ c0) (h : skylightref13_place.f k l0 a1 = some r) :
    Calls Try.prog 71 #[.slice A0 l0.length c0, .int .u64 a1] w fun e w' => e = .returned (.int .i64 r) ∧ Drawn0 w w' := by
  have HR0 := Aside0.mk hr0
  have HC0 := Aside0.mk hc0
  clear hr0 hc0
  have H : (skylightref13_place.l0 k l0 a1 0) = some r := h
  clear h
  have H' := Aside0.mk H
  clear H
  go_enter Try.func71, Try.ntmps71
  go_wp2
  go_loopg [5] k (fun kq v5 w' => ∃ (x5_1 : Int), v5 = .int .i64 x5_1 ∧ Aside0 (skylightref13_place.l0 kq l0 a1 x5_1 = some r) ∧ Aside0 (kq ≤ k) ∧ Drawn0 w w')
  case atStart => exact ⟨(0), (by first | rfl | (simp; done) | (simp [*]; done)), H', ⟨Nat.le_refl _⟩, by repeat (first | exact Drawn0.refl _ | apply Drawn0.step)⟩
  case round =>
    clear H'
    try clear p2
    obtain ⟨x5_1, rfl, HA, HK1, ⟨m1, rfl⟩⟩ := hrel
    cases gk with
    | zero => exact absurd HA.out (by simp [skylightref13_place.l0])
    | succ k1 =>
      have H := HA.out
      clear HA
      simp only [skylightref13_place.l0] at H
      by_cases c3 : x5_1 < (l0.length : Int)
      · rw [if_pos c3] at H
        have c3b0 : decide (x5_1 < (l0.length : Int)) = true := decide_eq_true c3
        clear c3
        by_cases c4 : 0 ≤ x5_1
        · rw [if_pos c4] at H
          have c4b0 : decide (0 ≤ x5_1) = true := decide_eq_true c4
          clear c4
          by_cases c5 : ((rd_T51 l0 x5_1).f0) < a1
          · rw [if_pos c5] at H
            have c5b0 : decide (((rd_T51 l0 x5_1).f0) < a1) = true := decide_eq_true c5
            clear c5
            have H' := Aside0.mk H
            clear H
            have p179 : 0 ≤ (x5_1 : Int) := of_decide_eq_true (by first | (with_reducible assumption) | assumption)
            have q179 : x5_1 < (l0.length : Int) := of_decide_eq_true (by first | (with_reducible assumption) | assumption)
            obtain ⟨ad179, e179, hx179_0, hx179_1⟩ := at_T51 HR0.out x5_1 p179 q179
            cases e179
            replace p179 := eq_true p179
            replace q179 := eq_true q179
            go_wp2
            go_roundg k1
            case measure => have := HK1.out; omega
            case rel => exact ⟨(wrap64 (x5_1 + 1)), (by first | rfl | (simp; done) | (simp [*]; done)), H', ⟨by have := HK1.out; omega⟩, by repeat (first | exact Drawn0.refl _ | apply Drawn0.step)⟩
          · rw [if_neg c5] at H
            have c5b0 : decide (((rd_T51 l0 x5_1).f0) < a1) = false := decide_eq_false c5
            clear c5
            obtain rfl := Option.some.inj H
            have p179 : 0 ≤ (x5_1 : Int) := of_decide_eq_true (by first | (with_reducible assumption) | assumption)
            have q179 : x5_1 < (l0.length : Int) := of_decide_eq_true (by first | (with_reducible assumption) | assumption)
            obtain ⟨ad179, e179, hx179_0, hx179_1⟩ := at_T51 HR0.out x5_1 p179 q179
            cases e179
            replace p179 := eq_true p179
            replace q179 := eq_true q179
            go_wp2
            go_ret
            exact ⟨by first | rfl | (simp; done) | (simp [*]; done), by repeat (first | exact Drawn0.refl _ | apply Drawn0.step)⟩
        · rw [if_neg c4] at H
          exact absurd H (by simp)
      · rw [if_neg c3] at H
        have c3b0 : decide (x5_1 < (l0.length : Int)) = false := decide_eq_false c3
        clear c3
        obtain rfl := Option.some.inj H
        go_wp2
        go_ret
        exact ⟨by first | rfl | (simp; done) | (simp [*]; done), by repeat (first | exact Drawn0.refl _ | apply Drawn0.step)⟩

/-! ### skylightref13_Put: function 46 -/
def skylightref13_Put.f (k : Nat) (l0 : List (S51)) (a1 : Int) (a2 : Int) : Option ((List (S51))) := (skylightref13_place.f k l0 a1).bind fun t180 => ((some (([] : List (S51)) : List (S51))).bind fun y181 => (if 0 ≤ t180 then (if t180 ≤ (l0.length : Int) then ((some (l0.take (t180 : Int).toNat : List (S51))).bind fun y184 => (if y181.length + y184.length < 8796093022208 then ((some (y181 ++ y184 : List (S51))).bind fun y188 => (if t180 < (l0.length : Int) then (if ((rd_T51 l0 t180).f0) = a1 then (if y188.length < 8796093022208 then ((some (y188 ++ [(⟨a1, IntKind.u64.wrap (((rd_T51 l0 t180).f1) + a2)⟩ : S51)] : List (S51))).bind fun y193 => (if 0 ≤ (wrap64 (t180 + 1)) then (if (wrap64 (t180 + 1)) ≤ (l0.length : Int) then ((some (l0.drop ((wrap64 (t180 + 1)) : Int).toNat : List (S51))).bind fun y196 => (if y193.length + y196.length < 8796093022208 then (some (y193 ++ y196)) else (none))) else (none)) else (none))) else (none)) else (if y188.length < 8796093022208 then ((some (y188 ++ [(⟨a1, a2⟩ : S51)] : List (S51))).bind fun y203 => ((some (l0.drop (t180 : Int).toNat : List (S51))).bind fun y206 => (if y203.length + y206.length < 8796093022208 then (some (y203 ++ y206)) else (none)))) else (none))) else (if y188.length < 8796093022208 then ((some (y188 ++ [(⟨a1, a2⟩ : S51)] : List (S51))).bind fun y213 => ((some (l0.drop (t180 : Int).toNat : List (S51))).bind fun y216 => (if y213.length + y216.length < 8796093022208 then (some (y213 ++ y216)) else (none)))) else (none)))) else (none))) else (none)) else (none)))
theorem skylightref13_Put.mono : ∀ a0 a1 a2 k, LeO (skylightref13_Put.f k a0 a1 a2) (skylightref13_Put.f (k + 1) a0 a1 a2) := by
  intro a0 a1 a2 k
  unfold skylightref13_Put.f
  repeat' first
      | (with_reducible exact skylightref13_place.mono _ _ _)
      | (with_reducible exact LeO.refl _)
      | (with_reducible exact LeO.none _)
      | (with_reducible refine LeO.ite ?_ ?_)
      | (with_reducible refine LeO.bind ?_ (fun _ => ?_))
      | exact skylightref13_place.mono _ _ _
      | exact LeO.none _
      | refine LeO.ite ?_ ?_
      | refine LeO.bind ?_ (fun _ => ?_)
set_option maxHeartbeats 8000000 in
set_option maxRecDepth 100000 in
theorem skylightref13_Put.calls (k : Nat) (A0 : Option Addr) (c0 : Nat) (l0 : List (S51)) (a1 : Int) (a2 : Int) (r : List (S51)) (w : World) (hr0 : Kd.C k51 w A0 l0.length l0) (hc0 : l0.length ≤ c0) (h : skylightref13_Put.f k l0 a1 a2 = some r) :
    Calls Try.prog 46 #[.slice A0 l0.length c0, .int .u64 a1, .int .u64 a2] w fun e w' => ∃ v0_ : Value, e = .returned (v0_) ∧ Kd.R k51 51 w' w.heap.size (fun _ => True) v0_ r ∧ Below w.heap.size w w' := by
  have hu51 := Try.underlying51
  have HR0 := Aside0.mk hr0
  have HC0 := Aside0.mk hc0
  clear hr0 hc0
  have HB := Aside0.mk (Below.refl w.heap.size w)
  have H : ((skylightref13_place.f k l0 a1).bind fun t180 => ((some (([] : List (S51)) : List (S51))).bind fun y181 => (if 0 ≤ t180 then (if t180 ≤ (l0.length : Int) then ((some (l0.take (t180 : Int).toNat : List (S51))).bind fun y184 => (if y181.length + y184.length < 8796093022208 then ((some (y181 ++ y184 : List (S51))).bind fun y188 => (if t180 < (l0.length : Int) then (if ((rd_T51 l0 t180).f0) = a1 then (if y188.length < 8796093022208 then ((some (y188 ++ [(⟨a1, IntKind.u64.wrap (((rd_T51 l0 t180).f1) + a2)⟩ : S51)] : List (S51))).bind fun y193 => (if 0 ≤ (wrap64 (t180 + 1)) then (if (wrap64 (t180 + 1)) ≤ (l0.length : Int) then ((some (l0.drop ((wrap64 (t180 + 1)) : Int).toNat : List (S51))).bind fun y196 => (if y193.length + y196.length < 8796093022208 then (some (y193 ++ y196)) else (none))) else (none)) else (none))) else (none)) else (if y188.length < 8796093022208 then ((some (y188 ++ [(⟨a1, a2⟩ : S51)] : List (S51))).bind fun y203 => ((some (l0.drop (t180 : Int).toNat : List (S51))).bind fun y206 => (if y203.length + y206.length < 8796093022208 then (some (y203 ++ y206)) else (none)))) else (none))) else (if y188.length < 8796093022208 then ((some (y188 ++ [(⟨a1, a2⟩ : S51)] : List (S51))).bind fun y213 => ((some (l0.drop (t180 : Int).toNat : List (S51))).bind fun y216 => (if y213.length + y216.length < 8796093022208 then (some (y213 ++ y216)) else (none)))) else (none)))) else (none))) else (none)) else (none)))) = some r := h
  clear h
  replace H := Option.bind_eq_some_iff.mp H
  obtain ⟨t180, A40, H⟩ := H
  replace H : ((some (([] : List (S51)) : List (S51))).bind fun y181 => (if 0 ≤ t180 then (if t180 ≤ (l0.length : Int) then ((some (l0.take (t180 : Int).toNat : List (S51))).bind fun y184 => (if y181.length + y184.length < 8796093022208 then ((some (y181 ++ y184 : List (S51))).bind fun y188 => (if t180 < (l0.length : Int) then (if ((rd_T51 l0 t180).f0) = a1 then (if y188.length < 8796093022208 then ((some (y188 ++ [(⟨a1, IntKind.u64.wrap (((rd_T51 l0 t180).f1) + a2)⟩ : S51)] : List (S51))).bind fun y193 => (if 0 ≤ (wrap64 (t180 + 1)) then (if (wrap64 (t180 + 1)) ≤ (l0.length : Int) then ((some (l0.drop ((wrap64 (t180 + 1)) : Int).toNat : List (S51))).bind fun y196 => (if y193.length + y196.length < 8796093022208 then (some (y193 ++ y196)) else (none))) else (none)) else (none))) else (none)) else (if y188.length < 8796093022208 then ((some (y188 ++ [(⟨a1, a2⟩ : S51)] : List (S51))).bind fun y203 => ((some (l0.drop (t180 : Int).toNat : List (S51))).bind fun y206 => (if y203.length + y206.length < 8796093022208 then (some (y203 ++ y206)) else (none)))) else (none))) else (if y188.length < 8796093022208 then ((some (y188 ++ [(⟨a1, a2⟩ : S51)] : List (S51))).bind fun y213 => ((some (l0.drop (t180 : Int).toNat : List (S51))).bind fun y216 => (if y213.length + y216.length < 8796093022208 then (some (y213 ++ y216)) else (none)))) else (none)))) else (none))) else (none)) else (none))) = some r := H
  have A4 := Aside0.mk A40
  clear A40
  obtain ⟨y181, hy181⟩ : ∃ y_ : List (S51), y_ = (([] : List (S51))) := ⟨_, rfl⟩
  replace H : (if 0 ≤ t180 then (if t180 ≤ (l0.length : Int) then ((some (l0.take (t180 : Int).toNat : List (S51))).bind fun y184 => (if y181.length + y184.length < 8796093022208 then ((some (y181 ++ y184 : List (S51))).bind fun y188 => (if t180 < (l0.length : Int) then (if ((rd_T51 l0 t180).f0) = a1 then (if y188.length < 8796093022208 then ((some (y188 ++ [(⟨a1, IntKind.u64.wrap (((rd_T51 l0 t180).f1) + a2)⟩ : S51)] : List (S51))).bind fun y193 => (if 0 ≤ (wrap64 (t180 + 1)) then (if (wrap64 (t180 + 1)) ≤ (l0.length : Int) then ((some (l0.drop ((wrap64 (t180 + 1)) : Int).toNat : List (S51))).bind fun y196 => (if y193.length + y196.length < 8796093022208 then (some (y193 ++ y196)) else (none))) else (none)) else (none))) else (none)) else (if y188.length < 8796093022208 then ((some (y188 ++ [(⟨a1, a2⟩ : S51)] : List (S51))).bind fun y203 => ((some (l0.drop (t180 : Int).toNat : List (S51))).bind fun y206 => (if y203.length + y206.length < 8796093022208 then (some (y203 ++ y206)) else (none)))) else (none))) else (if y188.length < 8796093022208 then ((some (y188 ++ [(⟨a1, a2⟩ : S51)] : List (S51))).bind fun y213 => ((some (l0.drop (t180 : Int).toNat : List (S51))).bind fun y216 => (if y213.length + y216.length < 8796093022208 then (some (y213 ++ y216)) else (none)))) else (none)))) else (none))) else (none)) else (none)) = some r := by first | (rw [hy181]; with_reducible exact H) | (have H2_ := (Option.bind_some _ _).symm.trans H; rw [hy181]; with_reducible exact H2_) | (have H2_ := (Option.bind_some _ _).symm.trans H; with_reducible exact H2_) | with_reducible exact H | (rw [hy181]; exact H) | exact H
  have Ny181 := Aside0.mk hy181
  clear hy181
  by_cases c5 : 0 ≤ t180
  · rw [if_pos c5] at H
    have c5b0 := eq_true c5
    have c5b1 : decide (0 ≤ t180) = true := decide_eq_true c5
    clear c5
    by_cases c6 : t180 ≤ (l0.length : Int)
    · rw [if_pos c6] at H
      have c6b0 := eq_true c6
      have c6b1 : decide (t180 ≤ (l0.length : Int)) = true := decide_eq_true c6
      clear c6
      obtain ⟨y184, hy184⟩ : ∃ y_ : List (S51), y_ = (l0.take (t180 : Int).toNat) := ⟨_, rfl⟩
      replace H : (if y181.length + y184.length < 8796093022208 then ((some (y181 ++ y184 : List (S51))).bind fun y188 => (if t180 < (l0.length : Int) then (if ((rd_T51 l0 t180).f0) = a1 then (if y188.length < 8796093022208 then ((some (y188 ++ [(⟨a1, IntKind.u64.wrap (((rd_T51 l0 t180).f1) + a2)⟩ : S51)] : List (S51))).bind fun y193 => (if 0 ≤ (wrap64 (t180 + 1)) then (if (wrap64 (t180 + 1)) ≤ (l0.length : Int) then ((some (l0.drop ((wrap64 (t180 + 1)) : Int).toNat : List (S51))).bind fun y196 => (if y193.length + y196.length < 8796093022208 then (some (y193 ++ y196)) else (none))) else (none)) else (none))) else (none)) else (if y188.length < 8796093022208 then ((some (y188 ++ [(⟨a1, a2⟩ : S51)] : List (S51))).bind fun y203 => ((some (l0.drop (t180 : Int).toNat : List (S51))).bind fun y206 => (if y203.length + y206.length < 8796093022208 then (some (y203 ++ y206)) else (none)))) else (none))) else (if y188.length < 8796093022208 then ((some (y188 ++ [(⟨a1, a2⟩ : S51)] : List (S51))).bind fun y213 => ((some (l0.drop (t180 : Int).toNat : List (S51))).bind fun y216 => (if y213.length + y216.length < 8796093022208 then (some (y213 ++ y216)) else (none)))) else (none)))) else (none)) = some r := by first | (rw [hy184]; with_reducible exact H) | (have H2_ := (Option.bind_some _ _).symm.trans H; rw [hy184]; with_reducible exact H2_) | (have H2_ := (Option.bind_some _ _).symm.trans H; with_reducible exact H2_) | with_reducible exact H | (rw [hy184]; exact H) | exact H
      have Ny184 := Aside0.mk hy184
      clear hy184
      by_cases c7 : y181.length + y184.length < 8796093022208
      · rw [if_pos c7] at H
        have LMc7 := Aside0.mk c7
        clear c7
        obtain ⟨y188, hy188⟩ : ∃ y_ : List (S51), y_ = (y181 ++ y184) := ⟨_, rfl⟩
        replace H : (if t180 < (l0.length : Int) then (if ((rd_T51 l0 t180).f0) = a1 then (if y188.length < 8796093022208 then ((some (y188 ++ [(⟨a1, IntKind.u64.wrap (((rd_T51 l0 t180).f1) + a2)⟩ : S51)] : List (S51))).bind fun y193 => (if 0 ≤ (wrap64 (t180 + 1)) then (if (wrap64 (t180 + 1)) ≤ (l0.length : Int) then ((some (l0.drop ((wrap64 (t180 + 1)) : Int).toNat : List (S51))).bind fun y196 => (if y193.length + y196.length < 8796093022208 then (some (y193 ++ y196)) else (none))) else (none)) else (none))) else (none)) else (if y188.length < 8796093022208 then ((some (y188 ++ [(⟨a1, a2⟩ : S51)] : List (S51))).bind fun y203 => ((some (l0.drop (t180 : Int).toNat : List (S51))).bind fun y206 => (if y203.length + y206.length < 8796093022208 then (some (y203 ++ y206)) else (none)))) else (none))) else (if y188.length < 8796093022208 then ((some (y188 ++ [(⟨a1, a2⟩ : S51)] : List (S51))).bind fun y213 => ((some (l0.drop (t180 : Int).toNat : List (S51))).bind fun y216 => (if y213.length + y216.length < 8796093022208 then (some (y213 ++ y216)) else (none)))) else (none))) = some r := by first | (rw [hy188]; with_reducible exact H) | (have H2_ := (Option.bind_some _ _).symm.trans H; rw [hy188]; with_reducible exact H2_) | (have H2_ := (Option.bind_some _ _).symm.trans H; with_reducible exact H2_) | with_reducible exact H | (rw [hy188]; exact H) | exact H
        have Ny188 := Aside0.mk hy188
        clear hy188
        by_cases c8 : t180 < (l0.length : Int)
        · rw [if_pos c8] at H
          have c8b0 : decide (t180 < (l0.length : Int)) = true := decide_eq_true c8
          clear c8
          by_cases c9 : ((rd_T51 l0 t180).f0) = a1
          · rw [if_pos c9] at H
            have c9b0 : (((rd_T51 l0 t180).f0) == a1) = true := beq_iff_eq.mpr c9
            have c9b1 : (((rd_T51 l0 t180).f0) != a1) = false := bne_eq_false_iff_eq.mpr c9
            clear c9
            by_cases c10 : y188.length < 8796093022208
            · rw [if_pos c10] at H
              have LMc10 := Aside0.mk c10
              clear c10
              obtain ⟨y193, hy193⟩ : ∃ y_ : List (S51), y_ = (y188 ++ [(⟨a1, IntKind.u64.wrap (((rd_T51 l0 t180).f1) + a2)⟩ : S51)]) := ⟨_, rfl⟩
              replace H : (if 0 ≤ (wrap64 (t180 + 1)) then (if (wrap64 (t180 + 1)) ≤ (l0.length : Int) then ((some (l0.drop ((wrap64 (t180 + 1)) : Int).toNat : List (S51))).bind fun y196 => (if y193.length + y196.length < 8796093022208 then (some (y193 ++ y196)) else (none))) else (none)) else (none)) = some r := by first | (rw [hy193]; with_reducible exact H) | (have H2_ := (Option.bind_some _ _).symm.trans H; rw [hy193]; with_reducible exact H2_) | (have H2_ := (Option.bind_some _ _).symm.trans H; with_reducible exact H2_) | with_reducible exact H | (rw [hy193]; exact H) | exact H
              have Ny193 := Aside0.mk hy193
              clear hy193
              obtain ⟨ji11, hji11⟩ : ∃ j_ : Int, (wrap64 (t180 + 1)) = j_ := ⟨_, rfl⟩
              replace H : (if 0 ≤ (ji11) then (if (ji11) ≤ (l0.length : Int) then ((some (l0.drop ((ji11) : Int).toNat : List (S51))).bind fun y196 => (if y193.length + y196.length < 8796093022208 then (some (y193 ++ y196)) else (none))) else (none)) else (none)) = some r := by first | (rw [hji11] at H; exact H) | (simp only [hji11] at H ⊢; exact H)
              (try rw [hji11] at A4)
              have hji11w : (IntKind.i64.wrap (t180 + 1)) = ji11 := (i64_w _).trans hji11
              by_cases c12 : 0 ≤ (ji11)
              · rw [if_pos c12] at H
                have c12b0 := eq_true c12
                have c12b1 : decide (0 ≤ (ji11)) = true := decide_eq_true c12
                clear c12
                by_cases c13 : (ji11) ≤ (l0.length : Int)
                · rw [if_pos c13] at H
                  have c13b0 := eq_true c13
                  have c13b1 : decide ((ji11) ≤ (l0.length : Int)) = true := decide_eq_true c13
                  clear c13
                  obtain ⟨y196, hy196⟩ : ∃ y_ : List (S51), y_ = (l0.drop ((ji11) : Int).toNat) := ⟨_, rfl⟩
                  replace H : (if y193.length + y196.length < 8796093022208 then (some (y193 ++ y196)) else (none)) = some r := by first | (rw [hy196]; with_reducible exact H) | (have H2_ := (Option.bind_some _ _).symm.trans H; rw [hy196]; with_reducible exact H2_) | (have H2_ := (Option.bind_some _ _).symm.trans H; with_reducible exact H2_) | with_reducible exact H | (rw [hy196]; exact H) | exact H
                  have Ny196 := Aside0.mk hy196
                  clear hy196
                  by_cases c14 : y193.length + y196.length < 8796093022208
                  · rw [if_pos c14] at H
                    have LMc14 := Aside0.mk c14
                    clear c14
                    obtain ⟨y200, hy200⟩ : ∃ y_ : List (S51), y_ = (y193 ++ y196) := ⟨_, rfl⟩
                    replace H : (some y200) = some r := by first | (rw [hy200]; with_reducible exact H) | (have H2_ := (Option.bind_some _ _).symm.trans H; rw [hy200]; with_reducible exact H2_) | (have H2_ := (Option.bind_some _ _).symm.trans H; with_reducible exact H2_) | with_reducible exact H | (rw [hy200]; exact H) | exact H
                    have Ny200 := Aside0.mk hy200
                    clear hy200
                    obtain rfl := Option.some.inj H
                    go_enter Try.func46, Try.ntmps46
                    go_wp2_with (first | ((with_reducible refine gate_callee (f := 71) rfl ?_); refine goesL_ (some 11) rfl rfl Try.func71 (by kernel_rfl) rfl #[.slice A0 l0.length c0, .int .u64 a1] rfl (by (try simp only [List.map_toArray, List.map_cons, List.map_nil]); first | done | rfl | (simp only [List.length_drop, List.length_take]; rfl)) ?_; (with_reducible refine (skylightref13_place.calls k _ _ l0 a1 t180 _ ?side1 ?side2 A4.out).mono ?_); (case side1 => repeat (first | exact HR0.out | (with_reducible refine Kd.C_alloc ?_ _) | (with_reducible refine Kd.C_drewN ?_ _) | (with_reducible refine Kd.C_drew ?_))); (case side2 => exact HC0.out); rintro e w' ⟨rfl, ⟨nd, rfl⟩⟩; refine ⟨_, rfl, ?_⟩) | ((with_reducible refine gate_dst (N := 12) rfl ?_); refine Kd.R_lit k51 _ 51 ?hg (N := 12) ?hd (xs := ([] : List (S51))) (inner := []) (ok := fun _ => True) (okp := fun _ => True) ?hr ?hp (fun _ hk => hk) trivial (Below.refl _ _) (Nat.le_refl _) (by simp) ?_; (case hd => rfl); (case hg => rfl); (case hr => first | (go_simp; done) | (go_simp; rfl)); (case hp => exact (Reps.none _ _)); intro v182 w15 ho16 hb hg_ hnew_; clear hg_ hnew_; (first | rw [← Ny181.out] at ho16 | (simp only [Int.reduceToNat] at ho16; rw [← Ny181.out] at ho16)); have n0_ := Aside0.mk (Kd.R_lower ho16 (below_size (by repeat (first | (with_reducible first | exact HB.out | apply below_alloc | apply pw_below_drewN | apply below_drew1) | exact HB.out)))); have n1_ := Aside0.mk (below_step (by repeat (first | (with_reducible first | exact HB.out | apply below_alloc | apply pw_below_drewN | apply below_drew1) | exact HB.out)) hb); clear HB; have HO183 := n0_; have HB := n1_; clear n0_ n1_; clear hb ho16; have q17 : (t180 : Int) ≤ ((l0.length : Int) : Int) := of_decide_eq_true (by first | (with_reducible assumption) | assumption); obtain ⟨i017, hi017, _, hsz17, _⟩ := info_parts info51; have hroom17 : l0.length ≤ c0 := HC0.out; have hC17 : Kd.C k51 _ A0 l0.length l0 := HR0.out; have hcut17 := cut_to (P := Try.prog) 28 51 .i64 Try.underlying28 hi017 A0 l0.length c0 t180 (of_decide_eq_true (by first | (with_reducible assumption) | assumption)) q17 hroom17; have hr17 := Kd.C_take (m := (t180 : Int).toNat) hC17 (by omega); have hy17 : y184.length = (t180 : Int).toNat := (by rw [Ny184.out, List.length_take]; omega); rw [← Ny184.out] at hr17; rw [← hy17] at hcut17; have HR187 := Aside0.mk hr17; have HC187 := Aside0.mk (show y184.length ≤ c0 from by omega); clear hr17 hC17 hroom17 hi017 hsz17; have KY17 := Aside0.mk hy17; clear hy17; replace q17 := eq_true q17) | ((with_reducible refine gate_builtin (b := .append) (xs := #[.tmp 12, .tmp 15]) rfl ?_); at_builtin; refine Kd.R_append_rows k51 (w0 := w) w.heap.size rfl (.tmp 12) (.tmp 15) 28 51 (.agg #[(.int .u64 0), (.int .u64 0)]) 16 rfl Try.underlying28 info51 rfl (by decide) (by omega) v182 y181 y184 _ _ _ (fun _ => True) (fun _ => False) rfl rfl ?aO ?aR (fun _ _ h => h) (fun _ h => h.elim) ?aF ?aB ?aS ?aL ?_; (case aR => repeat (first | exact (Kd.C_below HR187.out HB.out) | (with_reducible refine Kd.C_alloc ?_ _) | (with_reducible refine Kd.C_drewN ?_ _) | (with_reducible refine Kd.C_drew ?_))); (case aB => exact (by repeat (first | (with_reducible first | exact HB.out | apply below_alloc | apply pw_below_drewN | apply below_drew1) | exact HB.out))); (case aF => exact (fun _ _ => trivial)); (case aO => exact (by (with_reducible repeat (first | apply Kd.R_alloc | apply Kd.R_drewN | apply Kd.R_drew)); exact HO183.out)); (case aS => exact (below_size (by repeat (first | (with_reducible first | exact HB.out | apply below_alloc | apply pw_below_drewN | apply below_drew1) | exact HB.out)))); (case aL => have := LMc7.out; omega); intro v189 w18 ho hb hg hat; rw [← Ny188.out] at ho; have n0_ := Aside0.mk (hb); have n1_ := Aside0.mk (ho); clear HB; clear HO183; have HB := n0_; have HO190 := n1_; clear n0_ n1_; clear ho hb hg hat; have p191 : 0 ≤ (t180 : Int) := of_decide_eq_true (by first | (with_reducible assumption) | assumption); have q191 : t180 < (l0.length : Int) := of_decide_eq_true (by first | (with_reducible assumption) | assumption); obtain ⟨ad191, e191, hx191_0, hx191_1⟩ := at_T51 HR0.out t180 p191 q191; cases e191; replace hx191_0 := (HB.out.cell (World.block_lt_of_cell? w _ hx191_0)).trans hx191_0; replace hx191_1 := (HB.out.cell (World.block_lt_of_cell? w _ hx191_1)).trans hx191_1; replace p191 := eq_true p191; replace q191 := eq_true q191; have p192 : 0 ≤ (t180 : Int) := of_decide_eq_true (by first | (with_reducible assumption) | assumption); have q192 : t180 < (l0.length : Int) := of_decide_eq_true (by first | (with_reducible assumption) | assumption); obtain ⟨ad192, e192, hx192_0, hx192_1⟩ := at_T51 HR0.out t180 p192 q192; obtain rfl : ad191 = ad192 := (by injection e192); replace hx192_0 := (HB.out.cell (World.block_lt_of_cell? w _ hx192_0)).trans hx192_0; replace hx192_1 := (HB.out.cell (World.block_lt_of_cell? w _ hx192_1)).trans hx192_1; replace p192 := eq_true p192; replace q192 := eq_true q192) | ((with_reducible refine gate_builtin (b := .append) (xs := #[.tmp 30, .tmp 40]) rfl ?_); at_builtin; refine Kd.R_append k51 (w0 := w) w.heap.size rfl (.tmp 30) (.tmp 40) 28 51 (.agg #[(.int .u64 0), (.int .u64 0)]) 16 rfl Try.underlying28 info51 rfl (by decide) (by omega) v189 y188 (⟨a1, IntKind.u64.wrap (((rd_T51 l0 t180).f1) + a2)⟩ : S51) [.int .u64 a1, .int .u64 (IntKind.u64.wrap (((rd_T51 l0 t180).f1) + a2))] (fun _ => True) (fun _ => False) rfl rfl ?aP (fun _ hk => hk.elim) ?aF ?aO ?aB ?aS ?aL ?_; (case aP => exact k51_mkM _ _ _ (⟨a1, IntKind.u64.wrap (((rd_T51 l0 t180).f1) + a2)⟩ : S51)); (case aB => exact (by repeat (first | (with_reducible first | exact HB.out | apply below_alloc | apply pw_below_drewN | apply below_drew1) | exact HB.out))); (case aF => exact (fun _ _ => trivial)); (case aO => exact (by (with_reducible repeat (first | apply Kd.R_alloc | apply Kd.R_drewN | apply Kd.R_drew)); exact HO190.out)); (case aS => exact (below_size (by repeat (first | (with_reducible first | exact HB.out | apply below_alloc | apply pw_below_drewN | apply below_drew1) | exact HB.out)))); (case aL => have := LMc10.out; omega); intro v194 w19 ho hb hg hat; rw [← Ny193.out] at ho; have n0_ := Aside0.mk (hb); have n1_ := Aside0.mk (ho); clear HB; clear HO190; have HB := n0_; have HO195 := n1_; clear n0_ n1_; clear ho hb hg hat; have q20 : ((ji11) : Int) ≤ ((l0.length : Int) : Int) := of_decide_eq_true (by first | (with_reducible assumption) | assumption); obtain ⟨i020, hi020, _, hsz20, _⟩ := info_parts info51; have hroom20 : l0.length ≤ c0 := HC0.out; have hC20 : Kd.C k51 _ (some ad191) l0.length l0 := HR0.out; have q020 : (0 : Int) ≤ ((ji11) : Int) := of_decide_eq_true (by first | (with_reducible assumption) | assumption); have hcut20 := cut_from (P := Try.prog) 28 51 .i64 Try.underlying28 hi020 2 hsz20 (some ad191) l0.length c0 (ji11) q020 q20; have hr20 := Kd.C_drop (m := ((ji11) : Int).toNat) (c := c0) hC20 (by omega) hroom20; obtain ⟨A20, hA20⟩ : ∃ A1, A1 = (if c0 = ((ji11) : Int).toNat then (some ad191) else ((some ad191) : Option Addr).map (·.add (((ji11) : Int).toNat * 2))) := ⟨_, rfl⟩; obtain ⟨c20, hc20⟩ : ∃ c1, c1 = c0 - ((ji11) : Int).toNat := ⟨_, rfl⟩; have hy20 : y196.length = l0.length - ((ji11) : Int).toNat := (by rw [Ny196.out, List.length_drop] <;> omega); rw [show (l0).drop ((ji11) : Int).toNat = y196 from Ny196.out.symm] at hr20; replace hr20 : Kd.C k51 _ A20 y196.length y196 := (by rw [hA20]; exact hr20); rw [← hy20, ← hA20, ← hc20] at hcut20; have HR199 := Aside0.mk hr20; have HC199 := Aside0.mk (show y196.length ≤ c20 from by rw [hy20, hc20]; exact Nat.sub_le_sub_right hroom20 _); clear hr20 hC20 hroom20 hi020 hsz20 hc20; have KY20 := Aside0.mk hy20; have KA20 := Aside0.mk hA20; clear hy20 hA20; replace q20 := eq_true q20) | ((with_reducible refine gate_builtin (b := .append) (xs := #[.tmp 42, .tmp 46]) rfl ?_); at_builtin; refine Kd.R_append_rows k51 (w0 := w) w.heap.size rfl (.tmp 42) (.tmp 46) 28 51 (.agg #[(.int .u64 0), (.int .u64 0)]) 16 rfl Try.underlying28 info51 rfl (by decide) (by omega) v194 y193 y196 _ _ _ (fun _ => True) (fun _ => False) rfl rfl ?aO ?aR (fun _ _ h => h) (fun _ h => h.elim) ?aF ?aB ?aS ?aL ?_; (case aR => repeat (first | exact (Kd.C_below HR199.out HB.out) | (with_reducible refine Kd.C_alloc ?_ _) | (with_reducible refine Kd.C_drewN ?_ _) | (with_reducible refine Kd.C_drew ?_))); (case aB => exact (by repeat (first | (with_reducible first | exact HB.out | apply below_alloc | apply pw_below_drewN | apply below_drew1) | exact HB.out))); (case aF => exact (fun _ _ => trivial)); (case aO => exact (by (with_reducible repeat (first | apply Kd.R_alloc | apply Kd.R_drewN | apply Kd.R_drew)); exact HO195.out)); (case aS => exact (below_size (by repeat (first | (with_reducible first | exact HB.out | apply below_alloc | apply pw_below_drewN | apply below_drew1) | exact HB.out)))); (case aL => have := LMc14.out; omega); intro v201 w21 ho hb hg hat; rw [← Ny200.out] at ho; have n0_ := Aside0.mk (hb); have n1_ := Aside0.mk (ho); clear HB; clear HO195; have HB := n0_; have HO202 := n1_; clear n0_ n1_; clear ho hb hg hat))
                    go_ret
                    exact ⟨_, by first | rfl | (simp [errW_none, errW_some] <;> rfl) | (simp only [← hji11]; first | rfl | (simp [errW_none, errW_some] <;> rfl)) | (simp [*, errW_none, errW_some] <;> rfl), by (with_reducible repeat (first | apply Kd.R_alloc | apply Kd.R_drewN | apply Kd.R_drew)); exact HO202.out, by repeat (first | (with_reducible first | exact HB.out | apply below_alloc | apply pw_below_drewN | apply below_drew1) | exact HB.out)⟩
                  · rw [if_neg c14] at H
                    exact absurd H (by simp)
                · rw [if_neg c13] at H
                  exact absurd H (by simp)
              · rw [if_neg c12] at H
                exact absurd H (by simp)
            · rw [if_neg c10] at H
              exact absurd H (by simp)
          · rw [if_neg c9] at H
            have c9b0 : (((rd_T51 l0 t180).f0) == a1) = false := beq_eq_false_iff_ne.mpr c9
            have c9b1 : (((rd_T51 l0 t180).f0) != a1) = true := bne_iff_ne.mpr c9
            by_cases c22 : y188.length < 8796093022208
            · rw [if_pos c22] at H
              have LMc22 := Aside0.mk c22
              clear c22
              obtain ⟨y203, hy203⟩ : ∃ y_ : List (S51), y_ = (y188 ++ [(⟨a1, a2⟩ : S51)]) := ⟨_, rfl⟩
              replace H : ((some (l0.drop (t180 : Int).toNat : List (S51))).bind fun y206 => (if y203.length + y206.length < 8796093022208 then (some (y203 ++ y206)) else (none))) = some r := by first | (rw [hy203]; with_reducible exact H) | (have H2_ := (Option.bind_some _ _).symm.trans H; rw [hy203]; with_reducible exact H2_) | (have H2_ := (Option.bind_some _ _).symm.trans H; with_reducible exact H2_) | with_reducible exact H | (rw [hy203]; exact H) | exact H
              have Ny203 := Aside0.mk hy203
              clear hy203
              have c23b0 := eq_true (of_decide_eq_true (by first | (with_reducible assumption) | assumption) : 0 ≤ t180)
              have c24b0 := eq_true (of_decide_eq_true (by first | (with_reducible assumption) | assumption) : t180 ≤ (l0.length : Int))
              obtain ⟨y206, hy206⟩ : ∃ y_ : List (S51), y_ = (l0.drop (t180 : Int).toNat) := ⟨_, rfl⟩
              replace H : (if y203.length + y206.length < 8796093022208 then (some (y203 ++ y206)) else (none)) = some r := by first | (rw [hy206]; with_reducible exact H) | (have H2_ := (Option.bind_some _ _).symm.trans H; rw [hy206]; with_reducible exact H2_) | (have H2_ := (Option.bind_some _ _).symm.trans H; with_reducible exact H2_) | with_reducible exact H | (rw [hy206]; exact H) | exact H
              have Ny206 := Aside0.mk hy206
              clear hy206
              by_cases c25 : y203.length + y206.length < 8796093022208
              · rw [if_pos c25] at H
                have LMc25 := Aside0.mk c25
                clear c25
                obtain ⟨y210, hy210⟩ : ∃ y_ : List (S51), y_ = (y203 ++ y206) := ⟨_, rfl⟩
                replace H : (some y210) = some r := by first | (rw [hy210]; with_reducible exact H) | (have H2_ := (Option.bind_some _ _).symm.trans H; rw [hy210]; with_reducible exact H2_) | (have H2_ := (Option.bind_some _ _).symm.trans H; with_reducible exact H2_) | with_reducible exact H | (rw [hy210]; exact H) | exact H
                have Ny210 := Aside0.mk hy210
                clear hy210
                obtain rfl := Option.some.inj H
                go_enter Try.func46, Try.ntmps46
                go_wp2_with (first | ((with_reducible refine gate_callee (f := 71) rfl ?_); refine goesL_ (some 11) rfl rfl Try.func71 (by kernel_rfl) rfl #[.slice A0 l0.length c0, .int .u64 a1] rfl (by (try simp only [List.map_toArray, List.map_cons, List.map_nil]); first | done | rfl | (simp only [List.length_drop, List.length_take]; rfl)) ?_; (with_reducible refine (skylightref13_place.calls k _ _ l0 a1 t180 _ ?side1 ?side2 A4.out).mono ?_); (case side1 => repeat (first | exact HR0.out | (with_reducible refine Kd.C_alloc ?_ _) | (with_reducible refine Kd.C_drewN ?_ _) | (with_reducible refine Kd.C_drew ?_))); (case side2 => exact HC0.out); rintro e w' ⟨rfl, ⟨nd, rfl⟩⟩; refine ⟨_, rfl, ?_⟩) | ((with_reducible refine gate_dst (N := 12) rfl ?_); refine Kd.R_lit k51 _ 51 ?hg (N := 12) ?hd (xs := ([] : List (S51))) (inner := []) (ok := fun _ => True) (okp := fun _ => True) ?hr ?hp (fun _ hk => hk) trivial (Below.refl _ _) (Nat.le_refl _) (by simp) ?_; (case hd => rfl); (case hg => rfl); (case hr => first | (go_simp; done) | (go_simp; rfl)); (case hp => exact (Reps.none _ _)); intro v182 w26 ho27 hb hg_ hnew_; clear hg_ hnew_; (first | rw [← Ny181.out] at ho27 | (simp only [Int.reduceToNat] at ho27; rw [← Ny181.out] at ho27)); have n0_ := Aside0.mk (Kd.R_lower ho27 (below_size (by repeat (first | (with_reducible first | exact HB.out | apply below_alloc | apply pw_below_drewN | apply below_drew1) | exact HB.out)))); have n1_ := Aside0.mk (below_step (by repeat (first | (with_reducible first | exact HB.out | apply below_alloc | apply pw_below_drewN | apply below_drew1) | exact HB.out)) hb); clear HB; have HO183 := n0_; have HB := n1_; clear n0_ n1_; clear hb ho27; have q28 : (t180 : Int) ≤ ((l0.length : Int) : Int) := of_decide_eq_true (by first | (with_reducible assumption) | assumption); obtain ⟨i028, hi028, _, hsz28, _⟩ := info_parts info51; have hroom28 : l0.length ≤ c0 := HC0.out; have hC28 : Kd.C k51 _ A0 l0.length l0 := HR0.out; have hcut28 := cut_to (P := Try.prog) 28 51 .i64 Try.underlying28 hi028 A0 l0.length c0 t180 (of_decide_eq_true (by first | (with_reducible assumption) | assumption)) q28 hroom28; have hr28 := Kd.C_take (m := (t180 : Int).toNat) hC28 (by omega); have hy28 : y184.length = (t180 : Int).toNat := (by rw [Ny184.out, List.length_take]; omega); rw [← Ny184.out] at hr28; rw [← hy28] at hcut28; have HR187 := Aside0.mk hr28; have HC187 := Aside0.mk (show y184.length ≤ c0 from by omega); clear hr28 hC28 hroom28 hi028 hsz28; have KY28 := Aside0.mk hy28; clear hy28; replace q28 := eq_true q28) | ((with_reducible refine gate_builtin (b := .append) (xs := #[.tmp 12, .tmp 15]) rfl ?_); at_builtin; refine Kd.R_append_rows k51 (w0 := w) w.heap.size rfl (.tmp 12) (.tmp 15) 28 51 (.agg #[(.int .u64 0), (.int .u64 0)]) 16 rfl Try.underlying28 info51 rfl (by decide) (by omega) v182 y181 y184 _ _ _ (fun _ => True) (fun _ => False) rfl rfl ?aO ?aR (fun _ _ h => h) (fun _ h => h.elim) ?aF ?aB ?aS ?aL ?_; (case aR => repeat (first | exact (Kd.C_below HR187.out HB.out) | (with_reducible refine Kd.C_alloc ?_ _) | (with_reducible refine Kd.C_drewN ?_ _) | (with_reducible refine Kd.C_drew ?_))); (case aB => exact (by repeat (first | (with_reducible first | exact HB.out | apply below_alloc | apply pw_below_drewN | apply below_drew1) | exact HB.out))); (case aF => exact (fun _ _ => trivial)); (case aO => exact (by (with_reducible repeat (first | apply Kd.R_alloc | apply Kd.R_drewN | apply Kd.R_drew)); exact HO183.out)); (case aS => exact (below_size (by repeat (first | (with_reducible first | exact HB.out | apply below_alloc | apply pw_below_drewN | apply below_drew1) | exact HB.out)))); (case aL => have := LMc7.out; omega); intro v189 w29 ho hb hg hat; rw [← Ny188.out] at ho; have n0_ := Aside0.mk (hb); have n1_ := Aside0.mk (ho); clear HB; clear HO183; have HB := n0_; have HO190 := n1_; clear n0_ n1_; clear ho hb hg hat; have p191 : 0 ≤ (t180 : Int) := of_decide_eq_true (by first | (with_reducible assumption) | assumption); have q191 : t180 < (l0.length : Int) := of_decide_eq_true (by first | (with_reducible assumption) | assumption); obtain ⟨ad191, e191, hx191_0, hx191_1⟩ := at_T51 HR0.out t180 p191 q191; cases e191; replace hx191_0 := (HB.out.cell (World.block_lt_of_cell? w _ hx191_0)).trans hx191_0; replace hx191_1 := (HB.out.cell (World.block_lt_of_cell? w _ hx191_1)).trans hx191_1; replace p191 := eq_true p191; replace q191 := eq_true q191) | ((with_reducible refine gate_builtin (b := .append) (xs := #[.tmp 49, .tmp 53]) rfl ?_); at_builtin; refine Kd.R_append k51 (w0 := w) w.heap.size rfl (.tmp 49) (.tmp 53) 28 51 (.agg #[(.int .u64 0), (.int .u64 0)]) 16 rfl Try.underlying28 info51 rfl (by decide) (by omega) v189 y188 (⟨a1, a2⟩ : S51) [.int .u64 a1, .int .u64 a2] (fun _ => True) (fun _ => False) rfl rfl ?aP (fun _ hk => hk.elim) ?aF ?aO ?aB ?aS ?aL ?_; (case aP => exact k51_mkM _ _ _ (⟨a1, a2⟩ : S51)); (case aB => exact (by repeat (first | (with_reducible first | exact HB.out | apply below_alloc | apply pw_below_drewN | apply below_drew1) | exact HB.out))); (case aF => exact (fun _ _ => trivial)); (case aO => exact (by (with_reducible repeat (first | apply Kd.R_alloc | apply Kd.R_drewN | apply Kd.R_drew)); exact HO190.out)); (case aS => exact (below_size (by repeat (first | (with_reducible first | exact HB.out | apply below_alloc | apply pw_below_drewN | apply below_drew1) | exact HB.out)))); (case aL => have := LMc22.out; omega); intro v204 w30 ho hb hg hat; rw [← Ny203.out] at ho; have n0_ := Aside0.mk (hb); have n1_ := Aside0.mk (ho); clear HB; clear HO190; have HB := n0_; have HO205 := n1_; clear n0_ n1_; clear ho hb hg hat; have q31 : (t180 : Int) ≤ ((l0.length : Int) : Int) := of_decide_eq_true (by first | (with_reducible assumption) | assumption); obtain ⟨i031, hi031, _, hsz31, _⟩ := info_parts info51; have hroom31 : l0.length ≤ c0 := HC0.out; have hC31 : Kd.C k51 _ (some ad191) l0.length l0 := HR0.out; have q031 : (0 : Int) ≤ (t180 : Int) := of_decide_eq_true (by first | (with_reducible assumption) | assumption); have hcut31 := cut_from (P := Try.prog) 28 51 .i64 Try.underlying28 hi031 2 hsz31 (some ad191) l0.length c0 t180 q031 q31; have hr31 := Kd.C_drop (m := (t180 : Int).toNat) (c := c0) hC31 (by omega) hroom31; obtain ⟨A31, hA31⟩ : ∃ A1, A1 = (if c0 = (t180 : Int).toNat then (some ad191) else ((some ad191) : Option Addr).map (·.add ((t180 : Int).toNat * 2))) := ⟨_, rfl⟩; obtain ⟨c31, hc31⟩ : ∃ c1, c1 = c0 - (t180 : Int).toNat := ⟨_, rfl⟩; have hy31 : y206.length = l0.length - (t180 : Int).toNat := (by rw [Ny206.out, List.length_drop] <;> omega); rw [show (l0).drop (t180 : Int).toNat = y206 from Ny206.out.symm] at hr31; replace hr31 : Kd.C k51 _ A31 y206.length y206 := (by rw [hA31]; exact hr31); rw [← hy31, ← hA31, ← hc31] at hcut31; have HR209 := Aside0.mk hr31; have HC209 := Aside0.mk (show y206.length ≤ c31 from by rw [hy31, hc31]; exact Nat.sub_le_sub_right hroom31 _); clear hr31 hC31 hroom31 hi031 hsz31 hc31; have KY31 := Aside0.mk hy31; have KA31 := Aside0.mk hA31; clear hy31 hA31; replace q31 := eq_true q31) | ((with_reducible refine gate_builtin (b := .append) (xs := #[.tmp 55, .tmp 58]) rfl ?_); at_builtin; refine Kd.R_append_rows k51 (w0 := w) w.heap.size rfl (.tmp 55) (.tmp 58) 28 51 (.agg #[(.int .u64 0), (.int .u64 0)]) 16 rfl Try.underlying28 info51 rfl (by decide) (by omega) v204 y203 y206 _ _ _ (fun _ => True) (fun _ => False) rfl rfl ?aO ?aR (fun _ _ h => h) (fun _ h => h.elim) ?aF ?aB ?aS ?aL ?_; (case aR => repeat (first | exact (Kd.C_below HR209.out HB.out) | (with_reducible refine Kd.C_alloc ?_ _) | (with_reducible refine Kd.C_drewN ?_ _) | (with_reducible refine Kd.C_drew ?_))); (case aB => exact (by repeat (first | (with_reducible first | exact HB.out | apply below_alloc | apply pw_below_drewN | apply below_drew1) | exact HB.out))); (case aF => exact (fun _ _ => trivial)); (case aO => exact (by (with_reducible repeat (first | apply Kd.R_alloc | apply Kd.R_drewN | apply Kd.R_drew)); exact HO205.out)); (case aS => exact (below_size (by repeat (first | (with_reducible first | exact HB.out | apply below_alloc | apply pw_below_drewN | apply below_drew1) | exact HB.out)))); (case aL => have := LMc25.out; omega); intro v211 w32 ho hb hg hat; rw [← Ny210.out] at ho; have n0_ := Aside0.mk (hb); have n1_ := Aside0.mk (ho); clear HB; clear HO205; have HB := n0_; have HO212 := n1_; clear n0_ n1_; clear ho hb hg hat))
                go_ret
                exact ⟨_, by first | rfl | (simp [errW_none, errW_some] <;> rfl) | (simp [*, errW_none, errW_some] <;> rfl), by (with_reducible repeat (first | apply Kd.R_alloc | apply Kd.R_drewN | apply Kd.R_drew)); exact HO212.out, by repeat (first | (with_reducible first | exact HB.out | apply below_alloc | apply pw_below_drewN | apply below_drew1) | exact HB.out)⟩
              · rw [if_neg c25] at H
                exact absurd H (by simp)
            · rw [if_neg c22] at H
              exact absurd H (by simp)
        · rw [if_neg c8] at H
          have c8b0 : decide (t180 < (l0.length : Int)) = false := decide_eq_false c8
          clear c8
          by_cases c33 : y188.length < 8796093022208
          · rw [if_pos c33] at H
            have LMc33 := Aside0.mk c33
            clear c33
            obtain ⟨y213, hy213⟩ : ∃ y_ : List (S51), y_ = (y188 ++ [(⟨a1, a2⟩ : S51)]) := ⟨_, rfl⟩
            replace H : ((some (l0.drop (t180 : Int).toNat : List (S51))).bind fun y216 => (if y213.length + y216.length < 8796093022208 then (some (y213 ++ y216)) else (none))) = some r := by first | (rw [hy213]; with_reducible exact H) | (have H2_ := (Option.bind_some _ _).symm.trans H; rw [hy213]; with_reducible exact H2_) | (have H2_ := (Option.bind_some _ _).symm.trans H; with_reducible exact H2_) | with_reducible exact H | (rw [hy213]; exact H) | exact H
            have Ny213 := Aside0.mk hy213
            clear hy213
            have c34b0 := eq_true (of_decide_eq_true (by first | (with_reducible assumption) | assumption) : 0 ≤ t180)
            have c35b0 := eq_true (of_decide_eq_true (by first | (with_reducible assumption) | assumption) : t180 ≤ (l0.length : Int))
            obtain ⟨y216, hy216⟩ : ∃ y_ : List (S51), y_ = (l0.drop (t180 : Int).toNat) := ⟨_, rfl⟩
            replace H : (if y213.length + y216.length < 8796093022208 then (some (y213 ++ y216)) else (none)) = some r := by first | (rw [hy216]; with_reducible exact H) | (have H2_ := (Option.bind_some _ _).symm.trans H; rw [hy216]; with_reducible exact H2_) | (have H2_ := (Option.bind_some _ _).symm.trans H; with_reducible exact H2_) | with_reducible exact H | (rw [hy216]; exact H) | exact H
            have Ny216 := Aside0.mk hy216
            clear hy216
            by_cases c36 : y213.length + y216.length < 8796093022208
            · rw [if_pos c36] at H
              have LMc36 := Aside0.mk c36
              clear c36
              obtain ⟨y220, hy220⟩ : ∃ y_ : List (S51), y_ = (y213 ++ y216) := ⟨_, rfl⟩
              replace H : (some y220) = some r := by first | (rw [hy220]; with_reducible exact H) | (have H2_ := (Option.bind_some _ _).symm.trans H; rw [hy220]; with_reducible exact H2_) | (have H2_ := (Option.bind_some _ _).symm.trans H; with_reducible exact H2_) | with_reducible exact H | (rw [hy220]; exact H) | exact H
              have Ny220 := Aside0.mk hy220
              clear hy220
              obtain rfl := Option.some.inj H
              go_enter Try.func46, Try.ntmps46
              go_wp2_with (first | ((with_reducible refine gate_callee (f := 71) rfl ?_); refine goesL_ (some 11) rfl rfl Try.func71 (by kernel_rfl) rfl #[.slice A0 l0.length c0, .int .u64 a1] rfl (by (try simp only [List.map_toArray, List.map_cons, List.map_nil]); first | done | rfl | (simp only [List.length_drop, List.length_take]; rfl)) ?_; (with_reducible refine (skylightref13_place.calls k _ _ l0 a1 t180 _ ?side1 ?side2 A4.out).mono ?_); (case side1 => repeat (first | exact HR0.out | (with_reducible refine Kd.C_alloc ?_ _) | (with_reducible refine Kd.C_drewN ?_ _) | (with_reducible refine Kd.C_drew ?_))); (case side2 => exact HC0.out); rintro e w' ⟨rfl, ⟨nd, rfl⟩⟩; refine ⟨_, rfl, ?_⟩) | ((with_reducible refine gate_dst (N := 12) rfl ?_); refine Kd.R_lit k51 _ 51 ?hg (N := 12) ?hd (xs := ([] : List (S51))) (inner := []) (ok := fun _ => True) (okp := fun _ => True) ?hr ?hp (fun _ hk => hk) trivial (Below.refl _ _) (Nat.le_refl _) (by simp) ?_; (case hd => rfl); (case hg => rfl); (case hr => first | (go_simp; done) | (go_simp; rfl)); (case hp => exact (Reps.none _ _)); intro v182 w37 ho38 hb hg_ hnew_; clear hg_ hnew_; (first | rw [← Ny181.out] at ho38 | (simp only [Int.reduceToNat] at ho38; rw [← Ny181.out] at ho38)); have n0_ := Aside0.mk (Kd.R_lower ho38 (below_size (by repeat (first | (with_reducible first | exact HB.out | apply below_alloc | apply pw_below_drewN | apply below_drew1) | exact HB.out)))); have n1_ := Aside0.mk (below_step (by repeat (first | (with_reducible first | exact HB.out | apply below_alloc | apply pw_below_drewN | apply below_drew1) | exact HB.out)) hb); clear HB; have HO183 := n0_; have HB := n1_; clear n0_ n1_; clear hb ho38; have q39 : (t180 : Int) ≤ ((l0.length : Int) : Int) := of_decide_eq_true (by first | (with_reducible assumption) | assumption); obtain ⟨i039, hi039, _, hsz39, _⟩ := info_parts info51; have hroom39 : l0.length ≤ c0 := HC0.out; have hC39 : Kd.C k51 _ A0 l0.length l0 := HR0.out; have hcut39 := cut_to (P := Try.prog) 28 51 .i64 Try.underlying28 hi039 A0 l0.length c0 t180 (of_decide_eq_true (by first | (with_reducible assumption) | assumption)) q39 hroom39; have hr39 := Kd.C_take (m := (t180 : Int).toNat) hC39 (by omega); have hy39 : y184.length = (t180 : Int).toNat := (by rw [Ny184.out, List.length_take]; omega); rw [← Ny184.out] at hr39; rw [← hy39] at hcut39; have HR187 := Aside0.mk hr39; have HC187 := Aside0.mk (show y184.length ≤ c0 from by omega); clear hr39 hC39 hroom39 hi039 hsz39; have KY39 := Aside0.mk hy39; clear hy39; replace q39 := eq_true q39) | ((with_reducible refine gate_builtin (b := .append) (xs := #[.tmp 12, .tmp 15]) rfl ?_); at_builtin; refine Kd.R_append_rows k51 (w0 := w) w.heap.size rfl (.tmp 12) (.tmp 15) 28 51 (.agg #[(.int .u64 0), (.int .u64 0)]) 16 rfl Try.underlying28 info51 rfl (by decide) (by omega) v182 y181 y184 _ _ _ (fun _ => True) (fun _ => False) rfl rfl ?aO ?aR (fun _ _ h => h) (fun _ h => h.elim) ?aF ?aB ?aS ?aL ?_; (case aR => repeat (first | exact (Kd.C_below HR187.out HB.out) | (with_reducible refine Kd.C_alloc ?_ _) | (with_reducible refine Kd.C_drewN ?_ _) | (with_reducible refine Kd.C_drew ?_))); (case aB => exact (by repeat (first | (with_reducible first | exact HB.out | apply below_alloc | apply pw_below_drewN | apply below_drew1) | exact HB.out))); (case aF => exact (fun _ _ => trivial)); (case aO => exact (by (with_reducible repeat (first | apply Kd.R_alloc | apply Kd.R_drewN | apply Kd.R_drew)); exact HO183.out)); (case aS => exact (below_size (by repeat (first | (with_reducible first | exact HB.out | apply below_alloc | apply pw_below_drewN | apply below_drew1) | exact HB.out)))); (case aL => have := LMc7.out; omega); intro v189 w40 ho hb hg hat; rw [← Ny188.out] at ho; have n0_ := Aside0.mk (hb); have n1_ := Aside0.mk (ho); clear HB; clear HO183; have HB := n0_; have HO190 := n1_; clear n0_ n1_; clear ho hb hg hat) | ((with_reducible refine gate_builtin (b := .append) (xs := #[.tmp 49, .tmp 53]) rfl ?_); at_builtin; refine Kd.R_append k51 (w0 := w) w.heap.size rfl (.tmp 49) (.tmp 53) 28 51 (.agg #[(.int .u64 0), (.int .u64 0)]) 16 rfl Try.underlying28 info51 rfl (by decide) (by omega) v189 y188 (⟨a1, a2⟩ : S51) [.int .u64 a1, .int .u64 a2] (fun _ => True) (fun _ => False) rfl rfl ?aP (fun _ hk => hk.elim) ?aF ?aO ?aB ?aS ?aL ?_; (case aP => exact k51_mkM _ _ _ (⟨a1, a2⟩ : S51)); (case aB => exact (by repeat (first | (with_reducible first | exact HB.out | apply below_alloc | apply pw_below_drewN | apply below_drew1) | exact HB.out))); (case aF => exact (fun _ _ => trivial)); (case aO => exact (by (with_reducible repeat (first | apply Kd.R_alloc | apply Kd.R_drewN | apply Kd.R_drew)); exact HO190.out)); (case aS => exact (below_size (by repeat (first | (with_reducible first | exact HB.out | apply below_alloc | apply pw_below_drewN | apply below_drew1) | exact HB.out)))); (case aL => have := LMc33.out; omega); intro v214 w41 ho hb hg hat; rw [← Ny213.out] at ho; have n0_ := Aside0.mk (hb); have n1_ := Aside0.mk (ho); clear HB; clear HO190; have HB := n0_; have HO215 := n1_; clear n0_ n1_; clear ho hb hg hat; have q42 : (t180 : Int) ≤ ((l0.length : Int) : Int) := of_decide_eq_true (by first | (with_reducible assumption) | assumption); obtain ⟨i042, hi042, _, hsz42, _⟩ := info_parts info51; have hroom42 : l0.length ≤ c0 := HC0.out; have hC42 : Kd.C k51 _ A0 l0.length l0 := HR0.out; have q042 : (0 : Int) ≤ (t180 : Int) := of_decide_eq_true (by first | (with_reducible assumption) | assumption); have hcut42 := cut_from (P := Try.prog) 28 51 .i64 Try.underlying28 hi042 2 hsz42 A0 l0.length c0 t180 q042 q42; have hr42 := Kd.C_drop (m := (t180 : Int).toNat) (c := c0) hC42 (by omega) hroom42; obtain ⟨A42, hA42⟩ : ∃ A1, A1 = (if c0 = (t180 : Int).toNat then A0 else (A0 : Option Addr).map (·.add ((t180 : Int).toNat * 2))) := ⟨_, rfl⟩; obtain ⟨c42, hc42⟩ : ∃ c1, c1 = c0 - (t180 : Int).toNat := ⟨_, rfl⟩; have hy42 : y216.length = l0.length - (t180 : Int).toNat := (by rw [Ny216.out, List.length_drop] <;> omega); rw [show (l0).drop (t180 : Int).toNat = y216 from Ny216.out.symm] at hr42; replace hr42 : Kd.C k51 _ A42 y216.length y216 := (by rw [hA42]; exact hr42); rw [← hy42, ← hA42, ← hc42] at hcut42; have HR219 := Aside0.mk hr42; have HC219 := Aside0.mk (show y216.length ≤ c42 from by rw [hy42, hc42]; exact Nat.sub_le_sub_right hroom42 _); clear hr42 hC42 hroom42 hi042 hsz42 hc42; have KY42 := Aside0.mk hy42; have KA42 := Aside0.mk hA42; clear hy42 hA42; replace q42 := eq_true q42) | ((with_reducible refine gate_builtin (b := .append) (xs := #[.tmp 55, .tmp 58]) rfl ?_); at_builtin; refine Kd.R_append_rows k51 (w0 := w) w.heap.size rfl (.tmp 55) (.tmp 58) 28 51 (.agg #[(.int .u64 0), (.int .u64 0)]) 16 rfl Try.underlying28 info51 rfl (by decide) (by omega) v214 y213 y216 _ _ _ (fun _ => True) (fun _ => False) rfl rfl ?aO ?aR (fun _ _ h => h) (fun _ h => h.elim) ?aF ?aB ?aS ?aL ?_; (case aR => repeat (first | exact (Kd.C_below HR219.out HB.out) | (with_reducible refine Kd.C_alloc ?_ _) | (with_reducible refine Kd.C_drewN ?_ _) | (with_reducible refine Kd.C_drew ?_))); (case aB => exact (by repeat (first | (with_reducible first | exact HB.out | apply below_alloc | apply pw_below_drewN | apply below_drew1) | exact HB.out))); (case aF => exact (fun _ _ => trivial)); (case aO => exact (by (with_reducible repeat (first | apply Kd.R_alloc | apply Kd.R_drewN | apply Kd.R_drew)); exact HO215.out)); (case aS => exact (below_size (by repeat (first | (with_reducible first | exact HB.out | apply below_alloc | apply pw_below_drewN | apply below_drew1) | exact HB.out)))); (case aL => have := LMc36.out; omega); intro v221 w43 ho hb hg hat; rw [← Ny220.out] at ho; have n0_ := Aside0.mk (hb); have n1_ := Aside0.mk (ho); clear HB; clear HO215; have HB := n0_; have HO222 := n1_; clear n0_ n1_; clear ho hb hg hat))
              go_ret
              exact ⟨_, by first | rfl | (simp [errW_none, errW_some] <;> rfl) | (simp [*, errW_none, errW_some] <;> rfl), by (with_reducible repeat (first | apply Kd.R_alloc | apply Kd.R_drewN | apply Kd.R_drew)); exact HO222.out, by repeat (first | (with_reducible first | exact HB.out | apply below_alloc | apply pw_below_drewN | apply below_drew1) | exact HB.out)⟩
            · rw [if_neg c36] at H
              exact absurd H (by simp)
          · rw [if_neg c33] at H
            exact absurd H (by simp)
      · rw [if_neg c7] at H
        exact absurd H (by simp)
    · rw [if_neg c6] at H
      exact absurd H (by simp)
  · rw [if_neg c5] at H
    exact absurd H (by simp)

/-! ### skylightref18_Sums: function 21 -/
mutual
def skylightref18_Sums.l0 : Nat → List (S30) → List (S51) → Int → Option ((List (S51)))
  | 0, _, _, _ => none
  | k + 1, x0, x3, x4 => if x4 < (x0.length : Int) then (skylightref18_Sums.l1 k x0 x3 x4 0) else (some x3)
def skylightref18_Sums.l1 : Nat → List (S30) → List (S51) → Int → Int → Option ((List (S51)))
  | 0, _, _, _, _ => none
  | k + 1, x0, x3, x4, x5 => if 0 ≤ x4 then (if x4 < (x0.length : Int) then (if x5 < (((rd_T30 x0 x4).f2).length : Int) then (if 0 ≤ x5 then ((skylightref13_Put.f k x3 ((rd_T51 ((rd_T30 x0 x4).f2) x5).f0) ((rd_T51 ((rd_T30 x0 x4).f2) x5).f1)).bind fun t228 => (skylightref18_Sums.l1 k x0 t228 x4 (wrap64 (x5 + 1)))) else (none)) else (skylightref18_Sums.l0 k x0 x3 (wrap64 (x4 + 1)))) else (none)) else (none)
end
def skylightref18_Sums.f (k : Nat) (l0 : List (S30)) : Option ((List (S51))) := skylightref18_Sums.l0 k l0 ([] : List (S51)) 0
theorem skylightref18_Sums.mono_l : ∀ k, (∀ y0 y1 y2, LeO (skylightref18_Sums.l0 k y0 y1 y2) (skylightref18_Sums.l0 (k + 1) y0 y1 y2)) ∧ (∀ y0 y1 y2 y3, LeO (skylightref18_Sums.l1 k y0 y1 y2 y3) (skylightref18_Sums.l1 (k + 1) y0 y1 y2 y3))
  | 0 => ⟨fun _ _ _ r h => by simp [skylightref18_Sums.l0] at h, fun _ _ _ _ r h => by simp [skylightref18_Sums.l1] at h⟩
  | k + 1 => by
    obtain ⟨ih0, ih1⟩ := skylightref18_Sums.mono_l k
    refine ⟨?_, ?_⟩
    · intro y0 y1 y2
      unfold skylightref18_Sums.l0
      repeat' first
      | (with_reducible exact ih0 _ _ _)
      | (with_reducible exact ih1 _ _ _ _)
      | (with_reducible exact skylightref13_Put.mono _ _ _ _)
      | (with_reducible exact LeO.refl _)
      | (with_reducible exact LeO.none _)
      | (with_reducible refine LeO.ite ?_ ?_)
      | (with_reducible refine LeO.bind ?_ (fun _ => ?_))
      | exact ih0 _ _ _
      | exact ih1 _ _ _ _
      | exact skylightref13_Put.mono _ _ _ _
      | exact LeO.none _
      | refine LeO.ite ?_ ?_
      | refine LeO.bind ?_ (fun _ => ?_)
    · intro y0 y1 y2 y3
      unfold skylightref18_Sums.l1
      repeat' first
      | (with_reducible exact ih0 _ _ _)
      | (with_reducible exact ih1 _ _ _ _)
      | (with_reducible exact skylightref13_Put.mono _ _ _ _)
      | (with_reducible exact LeO.refl _)
      | (with_reducible exact LeO.none _)
      | (with_reducible refine LeO.ite ?_ ?_)
      | (with_reducible refine LeO.bind ?_ (fun _ => ?_))
      | exact ih0 _ _ _
      | exact ih1 _ _ _ _
      | exact skylightref13_Put.mono _ _ _ _
      | exact LeO.none _
      | refine LeO.ite ?_ ?_
      | refine LeO.bind ?_ (fun _ => ?_)
theorem skylightref18_Sums.mono : ∀ a0 k, LeO (skylightref18_Sums.f k a0) (skylightref18_Sums.f (k + 1) a0) := by
  intro a0 k
  obtain ⟨ih0, ih1⟩ := skylightref18_Sums.mono_l k
  unfold skylightref18_Sums.f
  repeat' first
      | (with_reducible exact ih0 _ _ _)
      | (with_reducible exact ih1 _ _ _ _)
      | (with_reducible exact skylightref13_Put.mono _ _ _ _)
      | (with_reducible exact LeO.refl _)
      | (with_reducible exact LeO.none _)
      | (with_reducible refine LeO.ite ?_ ?_)
      | (with_reducible refine LeO.bind ?_ (fun _ => ?_))
      | exact ih0 _ _ _
      | exact ih1 _ _ _ _
      | exact skylightref13_Put.mono _ _ _ _
      | exact LeO.none _
      | refine LeO.ite ?_ ?_
      | refine LeO.bind ?_ (fun _ => ?_)
def skylightref18_Sums.T8 : Bool × List (List Nat × List Nat) := (true, [([], []), ([], []), ([], []), ([1, 2], [1, 2]), ([3], [3]), ([4], [4]), ([], []), ([5, 6], [5, 6]), ([7], [7]), ([8], [8]), ([], []), ([], []), ([10, 11], [10, 11]), ([12], [12]), ([13], [13]), ([], []), ([14, 15], [14, 15]), ([16], [16]), ([17], [17]), ([0, 9, 18], [0, 9, 18]), ([19, 19, 0, 1, 2, 3, 4, 5, 6, 7, 8, 9, 10, 11, 12, 13, 14, 15, 16, 17, 18, 19], [0, 19])])
def skylightref18_Sums.B8 : List Nat := [0, 0, 0, 6, 14, 30, 0, 126, 254, 510, 0, 0, 3072, 7168, 15360, 0, 64512, 130048, 261120, 524287, 1048575]
theorem skylightref18_Sums.tab8 : rtab .any (opsOf Try.f21 8) = skylightref18_Sums.T8 := by kernel_rfl
theorem skylightref18_Sums.bits8 : waitsOk skylightref18_Sums.T8.2 skylightref18_Sums.B8 = true := by kernel_rfl
set_option maxHeartbeats 8000000 in
set_option maxRecDepth 100000 in
theorem skylightref18_Sums.calls (k : Nat) (A0 : Option Addr) (c0 : Nat) (l0 : List (S30)) (r : List (S51)) (w : World) (hr0 : Kd.C k30 w A0 l0.length l0) (hc0 : l0.length ≤ c0) (h : skylightref18_Sums.f k l0 = some r) :
    Calls Try.prog 21 #[.slice A0 l0.length c0] w fun e w' => ∃ v0_ : Value, e = .returned (v0_) ∧ Kd.R k51 51 w' w.heap.size (fun _ => True) v0_ r ∧ Below w.heap.size w w' := by
  have HR0 := Aside0.mk hr0
  have HC0 := Aside0.mk hc0
  clear hr0 hc0
  have HB := Aside0.mk (Below.refl w.heap.size w)
  have H : (skylightref18_Sums.l0 k l0 ([] : List (S51)) 0) = some r := h
  clear h
  have H' := Aside0.mk H
  clear H
  go_enter Try.func21, Try.ntmps21
  go_wp2
  go_loopg [3, 4] k (fun kq v3 v4 w' => ∃ (x3_1 : List (S51)) (x4_1 : Int), v4 = .int .i64 x4_1 ∧ Aside0 (skylightref18_Sums.l0 kq l0 x3_1 x4_1 = some r) ∧ Aside0 (kq ≤ k) ∧ Aside0 (Kd.R k51 51 w' w.heap.size (fun _ => True) v3 x3_1) ∧ Aside0 (Below w.heap.size w w'))
  case atStart => exact ⟨(([] : List (S51))), (0), (by first | rfl | (simp; done) | (simp [*]; done)), H', ⟨Nat.le_refl _⟩, ⟨by first | exact Kd.R_nil _ _ _ _ _ | exact Kd.N_nil _ _ _ _ _ | exact Kd.V_nil _ _ _ _ _ | exact Kd.Q_nil _ _ _ _ _ | exact Kd.S_nil _ _ _ _ _⟩, ⟨by repeat (first | (with_reducible first | exact HB.out | apply below_alloc | apply pw_below_drewN | apply below_drew1) | exact HB.out)⟩⟩
  case round =>
    clear H'
    obtain ⟨x3_1, x4_1, rfl, HA, HK1, HO_3, HB⟩ := hrel
    cases gk with
    | zero => exact absurd HA.out (by simp [skylightref18_Sums.l0])
    | succ k1 =>
      have H := HA.out
      clear HA
      simp only [skylightref18_Sums.l0] at H
      by_cases c2 : x4_1 < (l0.length : Int)
      · rw [if_pos c2] at H
        have c2b0 : decide (x4_1 < (l0.length : Int)) = true := decide_eq_true c2
        clear c2
        have H' := Aside0.mk H
        clear H
        go_wp2
        go_loopg [3, 5] k1 (fun kq v3 v5 w' => ∃ (x3_2 : List (S51)) (x5_2 : Int), v5 = .int .i64 x5_2 ∧ Aside0 (skylightref18_Sums.l1 kq l0 x3_2 x4_1 x5_2 = some r) ∧ Aside0 (kq ≤ k1) ∧ Aside0 (Kd.R k51 51 w' w.heap.size (fun _ => True) v3 x3_2) ∧ Aside0 (Below w.heap.size w w'))
        case atStart => exact ⟨(x3_1), (0), (by first | rfl | (simp; done) | (simp [*]; done)), H', ⟨Nat.le_refl _⟩, ⟨by (with_reducible repeat (first | apply Kd.R_alloc | apply Kd.R_drewN | apply Kd.R_drew)); exact HO_3.out⟩, ⟨by repeat (first | (with_reducible first | exact HB.out | apply below_alloc | apply pw_below_drewN | apply below_drew1) | exact HB.out)⟩⟩
        case round =>
          clear H'
          try clear c2
          try clear c2b0
          try clear p2
          obtain ⟨x3_2, x5_2, rfl, HA, HK2, HO_3, HB⟩ := hrel
          cases gk with
          | zero => exact absurd HA.out (by simp [skylightref18_Sums.l1])
          | succ k2 =>
            have H := HA.out
            clear HA
            simp only [skylightref18_Sums.l1] at H
            by_cases c3 : 0 ≤ x4_1
            · rw [if_pos c3] at H
              have c3b0 : decide (0 ≤ x4_1) = true := decide_eq_true c3
              clear c3
              by_cases c4 : x4_1 < (l0.length : Int)
              · rw [if_pos c4] at H
                have c4b0 : decide (x4_1 < (l0.length : Int)) = true := decide_eq_true c4
                clear c4
                by_cases c5 : x5_2 < (((rd_T30 l0 x4_1).f2).length : Int)
                · rw [if_pos c5] at H
                  have c5b0 : decide (x5_2 < (((rd_T30 l0 x4_1).f2).length : Int)) = true := decide_eq_true c5
                  clear c5
                  by_cases c6 : 0 ≤ x5_2
                  · rw [if_pos c6] at H
                    have c6b0 : decide (0 ≤ x5_2) = true := decide_eq_true c6
                    clear c6
                    replace H := Option.bind_eq_some_iff.mp H
                    obtain ⟨t228, A70, H⟩ := H
                    replace H : (skylightref18_Sums.l1 k2 l0 t228 x4_1 (wrap64 (x5_2 + 1))) = some r := H
                    have A7 := Aside0.mk A70
                    clear A70
                    have H' := Aside0.mk H
                    clear H
                    have p223 : 0 ≤ (x4_1 : Int) := of_decide_eq_true (by first | (with_reducible assumption) | assumption)
                    have q223 : x4_1 < (l0.length : Int) := of_decide_eq_true (by first | (with_reducible assumption) | assumption)
                    obtain ⟨ad223, A223_2, c223_2, e223, hx223_0, hx223_1, hx223_2, hl223_2, hi223_2⟩ := at_T30 HR0.out x4_1 p223 q223
                    cases e223
                    replace hx223_0 := (HB.out.cell (World.block_lt_of_cell? w _ hx223_0)).trans hx223_0
                    replace hx223_1 := (HB.out.cell (World.block_lt_of_cell? w _ hx223_1)).trans hx223_1
                    replace hx223_2 := (HB.out.cell (World.block_lt_of_cell? w _ hx223_2)).trans hx223_2
                    have HR223_2 := Aside0.mk hi223_2
                    have HC223_2 := Aside0.mk hl223_2
                    clear hi223_2 hl223_2
                    replace p223 := eq_true p223
                    replace q223 := eq_true q223
                    try go_wp2
                    have n0_ := Aside0.mk (Kd.R_drew HO_3.out)
                    have n1_ := Aside0.mk (below_drew1 HB.out)
                    clear HO_3
                    clear HB
                    have HO_3 := n0_
                    have HB := n1_
                    clear n0_ n1_
                    have p224 : 0 ≤ (x4_1 : Int) := of_decide_eq_true (by first | (with_reducible assumption) | assumption)
                    have q224 : x4_1 < (l0.length : Int) := of_decide_eq_true (by first | (with_reducible assumption) | assumption)
                    obtain ⟨ad224, A224_2, c224_2, e224, hx224_0, hx224_1, hx224_2, hl224_2, hi224_2⟩ := at_T30 HR0.out x4_1 p224 q224
                    have hw224_2 := hx224_2
                    have hw224_1 := hx224_1
                    have hw224_0 := hx224_0
                    obtain rfl : ad223 = ad224 := (by injection e224)
                    replace hx224_0 := (HB.out.cell (World.block_lt_of_cell? w _ hx224_0)).trans hx224_0
                    replace hx224_1 := (HB.out.cell (World.block_lt_of_cell? w _ hx224_1)).trans hx224_1
                    replace hx224_2 := (HB.out.cell (World.block_lt_of_cell? w _ hx224_2)).trans hx224_2
                    have HR224_2 := Aside0.mk hi224_2
                    have HC224_2 := Aside0.mk hl224_2
                    clear hi224_2 hl224_2
                    replace p224 := eq_true p224
                    replace q224 := eq_true q224
                    have p225 : 0 ≤ (x5_2 : Int) := of_decide_eq_true (by first | (with_reducible assumption) | assumption)
                    have q225 : x5_2 < (((rd_T30 l0 x4_1).f2).length : Int) := of_decide_eq_true (by first | (with_reducible assumption) | assumption)
                    obtain ⟨ad225, e225, hx225_0, hx225_1⟩ := at_T51 HR224_2.out x5_2 p225 q225
                    have hw225_1 := hx225_1
                    have hw225_0 := hx225_0
                    cases e225
                    replace hx225_0 := (HB.out.cell (World.block_lt_of_cell? w _ hx225_0)).trans hx225_0
                    replace hx225_1 := (HB.out.cell (World.block_lt_of_cell? w _ hx225_1)).trans hx225_1
                    replace p225 := eq_true p225
                    replace q225 := eq_true q225
                    have p226 : 0 ≤ (x4_1 : Int) := of_decide_eq_true (by first | (with_reducible assumption) | assumption)
                    have q226 : x4_1 < (l0.length : Int) := of_decide_eq_true (by first | (with_reducible assumption) | assumption)
                    obtain ⟨ad226, A226_2, c226_2, e226, hx226_0, hx226_1, hx226_2, hl226_2, hi226_2⟩ := at_T30 HR0.out x4_1 p226 q226
                    have hw226_2 := hx226_2
                    have hw226_1 := hx226_1
                    have hw226_0 := hx226_0
                    obtain rfl : ad223 = ad226 := (by injection e226)
                    replace hx226_0 := (HB.out.cell (World.block_lt_of_cell? w _ hx226_0)).trans hx226_0
                    replace hx226_1 := (HB.out.cell (World.block_lt_of_cell? w _ hx226_1)).trans hx226_1
                    replace hx226_2 := (HB.out.cell (World.block_lt_of_cell? w _ hx226_2)).trans hx226_2
                    have HR226_2 := Aside0.mk hi226_2
                    have HC226_2 := Aside0.mk hl226_2
                    clear hi226_2 hl226_2
                    replace p226 := eq_true p226
                    replace q226 := eq_true q226
                    have ea_ := Option.some.inj (hx224_2.symm.trans hx226_2)
                    injection ea_ with ea_ en_ ec_
                    subst ea_
                    subst ec_
                    clear en_
                    have p227 : 0 ≤ (x5_2 : Int) := of_decide_eq_true (by first | (with_reducible assumption) | assumption)
                    have q227 : x5_2 < (((rd_T30 l0 x4_1).f2).length : Int) := of_decide_eq_true (by first | (with_reducible assumption) | assumption)
                    obtain ⟨ad227, e227, hx227_0, hx227_1⟩ := at_T51 HR226_2.out x5_2 p227 q227
                    have hw227_1 := hx227_1
                    have hw227_0 := hx227_0
                    cases e227
                    replace hx227_0 := (HB.out.cell (World.block_lt_of_cell? w _ hx227_0)).trans hx227_0
                    replace hx227_1 := (HB.out.cell (World.block_lt_of_cell? w _ hx227_1)).trans hx227_1
                    replace p227 := eq_true p227
                    replace q227 := eq_true q227
                    obtain ⟨Ao9, co9, eo9⟩ := Kd.R_slice HO_3.out
                    (first | subst eo9 | (injection eo9 with f1_ f2_ f3_; have f4_ := f1_.symm; have f5_ := f3_.symm; clear f1_ f2_ f3_; subst f4_; subst f5_))
                    refine start_ (n := 21) (S := fun w' => w'.cell? (ad223.add ((x4_1).toNat * 3)) = some (.int .i64 ((rd_T30 l0 x4_1).f0)) ∧ w'.cell? ⟨(ad223.add ((x4_1).toNat * 3)).block, (ad223.add ((x4_1).toNat * 3)).off + 1, none⟩ = some (.int .u64 ((rd_T30 l0 x4_1).f1)) ∧ w'.cell? ⟨(ad223.add ((x4_1).toNat * 3)).block, (ad223.add ((x4_1).toNat * 3)).off + 2, none⟩ = some (.slice (some ad225) ((rd_T30 l0 x4_1).f2).length c224_2) ∧ w'.cell? (ad225.add ((x5_2).toNat * 2)) = some (.int .u64 ((rd_T51 ((rd_T30 l0 x4_1).f2) x5_2).f0)) ∧ w'.cell? ⟨(ad225.add ((x5_2).toNat * 2)).block, (ad225.add ((x5_2).toNat * 2)).off + 1, none⟩ = some (.int .u64 ((rd_T51 ((rd_T30 l0 x4_1).f2) x5_2).f1)) ∧ w'.cell? (ad223.add ((x4_1).toNat * 3)) = some (.int .i64 ((rd_T30 l0 x4_1).f0)) ∧ w'.cell? ⟨(ad223.add ((x4_1).toNat * 3)).block, (ad223.add ((x4_1).toNat * 3)).off + 1, none⟩ = some (.int .u64 ((rd_T30 l0 x4_1).f1)) ∧ w'.cell? ⟨(ad223.add ((x4_1).toNat * 3)).block, (ad223.add ((x4_1).toNat * 3)).off + 2, none⟩ = some (.slice (some ad225) ((rd_T30 l0 x4_1).f2).length c224_2) ∧ w'.cell? (ad225.add ((x5_2).toNat * 2)) = some (.int .u64 ((rd_T51 ((rd_T30 l0 x4_1).f2) x5_2).f0)) ∧ w'.cell? ⟨(ad225.add ((x5_2).toNat * 2)).block, (ad225.add ((x5_2).toNat * 2)).off + 1, none⟩ = some (.int .u64 ((rd_T51 ((rd_T30 l0 x4_1).f2) x5_2).f1))) (ds := []) #[false, false, false, false, false, false, false, false, false, false, false, false, false, false, false, false, false, false, false, false, false] (by kernel_rfl) rfl rfl ⟨((HB.out.cell (World.block_lt_of_cell? w _ hw224_0)).trans hw224_0), ((HB.out.cell (World.block_lt_of_cell? w _ hw224_1)).trans hw224_1), ((HB.out.cell (World.block_lt_of_cell? w _ hw224_2)).trans hw224_2), ((HB.out.cell (World.block_lt_of_cell? w _ hw225_0)).trans hw225_0), ((HB.out.cell (World.block_lt_of_cell? w _ hw225_1)).trans hw225_1), ((HB.out.cell (World.block_lt_of_cell? w _ hw226_0)).trans hw226_0), ((HB.out.cell (World.block_lt_of_cell? w _ hw226_1)).trans hw226_1), ((HB.out.cell (World.block_lt_of_cell? w _ hw226_2)).trans hw226_2), ((HB.out.cell (World.block_lt_of_cell? w _ hw227_0)).trans hw227_0), ((HB.out.cell (World.block_lt_of_cell? w _ hw227_1)).trans hw227_1)⟩ (fun hHeld => ?_); refine with_tabW skylightref18_Sums.tab8 skylightref18_Sums.bits8 (fun HT_ HW_ => ?_)
                    generalize wr.drew = w8 at HO_3 HB HR224_2 HR226_2 hx224_0 hx224_1 hx224_2 hx225_0 hx225_1 hx226_0 hx226_1 hx226_2 hx227_0 hx227_1 hHeld ⊢
                    refine pure_ (i := 0) (N := some 22) (v := ?_) (a' := ?_) #[true, false, false, false, false, false, false, false, false, false, false, false, false, false, false, false, false, false, false, false, false] rfl rfl (any_of HT_.out (by kernel_rfl)) (fun _ _ _ h => h) (Or.inl ⟨by rfl, ?_⟩) ?_ ?_
                    rotate_left
                    · intro w'
                      go_simp
                      with_reducible rfl
                    rotate_left
                    · simp only [Act.put, List.setIfInBounds_toArray, List.set_cons_zero, List.set_cons_succ, i64_w, i32_w]
                      rfl
                    refine pure_ (i := 1) (N := some 23) (v := ?_) (a' := ?_) #[true, true, false, false, false, false, false, false, false, false, false, false, false, false, false, false, false, false, false, false, false] rfl rfl (any_of HT_.out (by kernel_rfl)) (fun _ _ _ h => h) (Or.inl ⟨by rfl, ?_⟩) ?_ ?_
                    rotate_left
                    · intro w'
                      go_simp
                      with_reducible rfl
                    rotate_left
                    · simp only [Act.put, List.setIfInBounds_toArray, List.set_cons_zero, List.set_cons_succ, i64_w, i32_w]
                      rfl
                    refine pure_ (i := 2) (N := some 24) (v := ?_) (a' := ?_) #[true, true, true, false, false, false, false, false, false, false, false, false, false, false, false, false, false, false, false, false, false] rfl rfl (any_of HT_.out (by kernel_rfl)) (fun _ _ _ h => h) (Or.inl ⟨by rfl, ?_⟩) ?_ ?_
                    rotate_left
                    · intro w'
                      go_simp
                      with_reducible rfl
                    rotate_left
                    · simp only [Act.put, List.setIfInBounds_toArray, List.set_cons_zero, List.set_cons_succ, i64_w, i32_w]
                      rfl
                    refine pure_ (i := 3) (N := some 25) (v := ?_) (a' := ?_) #[true, true, true, true, false, false, false, false, false, false, false, false, false, false, false, false, false, false, false, false, false] rfl rfl (any_of HT_.out (by kernel_rfl)) (fun _ _ _ h => h) (Or.inl ⟨by rfl, ?_⟩) ?_ ?_
                    rotate_left
                    · intro w'
                      go_simp
                      with_reducible rfl
                    rotate_left
                    · simp only [Act.put, List.setIfInBounds_toArray, List.set_cons_zero, List.set_cons_succ, i64_w, i32_w]
                      rfl
                    refine pure_ (i := 4) (N := some 26) (v := ?_) (a' := ?_) #[true, true, true, true, true, false, false, false, false, false, false, false, false, false, false, false, false, false, false, false, false] rfl rfl (any_of HT_.out (by kernel_rfl)) (fun _ _ _ h => h) (Or.inl ⟨by rfl, ?_⟩) ?_ ?_
                    rotate_left
                    · intro w'
                      go_simp
                      with_reducible rfl
                    rotate_left
                    · simp only [Act.put, List.setIfInBounds_toArray, List.set_cons_zero, List.set_cons_succ, i64_w, i32_w]
                      rfl
                    refine pure_ (i := 6) (N := some 28) (v := ?_) (a' := ?_) #[true, true, true, true, true, false, true, false, false, false, false, false, false, false, false, false, false, false, false, false, false] rfl rfl (any_of HT_.out (by kernel_rfl)) (fun _ _ _ h => h) (Or.inl ⟨by rfl, ?_⟩) ?_ ?_
                    rotate_left
                    · intro w'
                      go_simp
                      with_reducible rfl
                    rotate_left
                    · simp only [Act.put, List.setIfInBounds_toArray, List.set_cons_zero, List.set_cons_succ, i64_w, i32_w]
                      rfl
                    refine pure_ (i := 10) (N := some 32) (v := ?_) (a' := ?_) #[true, true, true, true, true, false, true, false, false, false, true, false, false, false, false, false, false, false, false, false, false] rfl rfl (any_of HT_.out (by kernel_rfl)) (fun _ _ _ h => h) (Or.inl ⟨by rfl, ?_⟩) ?_ ?_
                    rotate_left
                    · intro w'
                      go_simp
                      with_reducible rfl
                    rotate_left
                    · simp only [Act.put, List.setIfInBounds_toArray, List.set_cons_zero, List.set_cons_succ, i64_w, i32_w]
                      rfl
                    refine pure_ (i := 11) (N := some 33) (v := ?_) (a' := ?_) #[true, true, true, true, true, false, true, false, false, false, true, true, false, false, false, false, false, false, false, false, false] rfl rfl (any_of HT_.out (by kernel_rfl)) (fun _ _ _ h => h) (Or.inl ⟨by rfl, ?_⟩) ?_ ?_
                    rotate_left
                    · intro w'
                      go_simp
                      with_reducible rfl
                    rotate_left
                    · simp only [Act.put, List.setIfInBounds_toArray, List.set_cons_zero, List.set_cons_succ, i64_w, i32_w]
                      rfl
                    refine pure_ (i := 12) (N := some 34) (v := ?_) (a' := ?_) #[true, true, true, true, true, false, true, false, false, false, true, true, true, false, false, false, false, false, false, false, false] rfl rfl (any_of HT_.out (by kernel_rfl)) (fun _ _ _ h => h) (Or.inl ⟨by rfl, ?_⟩) ?_ ?_
                    rotate_left
                    · intro w'
                      go_simp
                      with_reducible rfl
                    rotate_left
                    · simp only [Act.put, List.setIfInBounds_toArray, List.set_cons_zero, List.set_cons_succ, i64_w, i32_w]
                      rfl
                    refine pure_ (i := 13) (N := some 35) (v := ?_) (a' := ?_) #[true, true, true, true, true, false, true, false, false, false, true, true, true, true, false, false, false, false, false, false, false] rfl rfl (any_of HT_.out (by kernel_rfl)) (fun _ _ _ h => h) (Or.inl ⟨by rfl, ?_⟩) ?_ ?_
                    rotate_left
                    · intro w'
                      go_simp
                      with_reducible rfl
                    rotate_left
                    · simp only [Act.put, List.setIfInBounds_toArray, List.set_cons_zero, List.set_cons_succ, i64_w, i32_w]
                      rfl
                    refine pure_ (i := 15) (N := some 37) (v := ?_) (a' := ?_) #[true, true, true, true, true, false, true, false, false, false, true, true, true, true, false, true, false, false, false, false, false] rfl rfl (any_of HT_.out (by kernel_rfl)) (fun _ _ _ h => h) (Or.inl ⟨by rfl, ?_⟩) ?_ ?_
                    rotate_left
                    · intro w'
                      go_simp
                      with_reducible rfl
                    rotate_left
                    · simp only [Act.put, List.setIfInBounds_toArray, List.set_cons_zero, List.set_cons_succ, i64_w, i32_w]
                      rfl
                    refine take_ (i := 5) (N := some 27) (v := ?_) (a' := ?_) #[true, true, true, true, true, true, true, false, false, false, true, true, true, true, false, true, false, false, false, false, false] rfl rfl (take_ofW HT_.out HW_.out (by kernel_rfl)) (fun _ _ _ h => h) (Or.inl ⟨by rfl, ?_⟩) hHeld ?_ ?_
                    rotate_left
                    · rintro w' ⟨s0, s1, s2, s3, s4, s5, s6, s7, s8, s9⟩
                      go_simp
                      with_reducible rfl
                    rotate_left
                    · simp only [Act.put, List.setIfInBounds_toArray, List.set_cons_zero, List.set_cons_succ, i64_w, i32_w]
                      rfl
                    refine pure_ (i := 7) (N := some 29) (v := ?_) (a' := ?_) #[true, true, true, true, true, true, true, true, false, false, true, true, true, true, false, true, false, false, false, false, false] rfl rfl (any_of HT_.out (by kernel_rfl)) (fun _ _ _ h => h) (Or.inl ⟨by rfl, ?_⟩) ?_ ?_
                    rotate_left
                    · intro w'
                      go_simp
                      with_reducible rfl
                    rotate_left
                    · simp only [Act.put, List.setIfInBounds_toArray, List.set_cons_zero, List.set_cons_succ, i64_w, i32_w]
                      rfl
                    refine pure_ (i := 8) (N := some 30) (v := ?_) (a' := ?_) #[true, true, true, true, true, true, true, true, true, false, true, true, true, true, false, true, false, false, false, false, false] rfl rfl (any_of HT_.out (by kernel_rfl)) (fun _ _ _ h => h) (Or.inl ⟨by rfl, ?_⟩) ?_ ?_
                    rotate_left
                    · intro w'
                      go_simp
                      with_reducible rfl
                    rotate_left
                    · simp only [Act.put, List.setIfInBounds_toArray, List.set_cons_zero, List.set_cons_succ, i64_w, i32_w]
                      rfl
                    refine take_ (i := 9) (N := some 31) (v := ?_) (a' := ?_) #[true, true, true, true, true, true, true, true, true, true, true, true, true, true, false, true, false, false, false, false, false] rfl rfl (take_ofW HT_.out HW_.out (by kernel_rfl)) (fun _ _ _ h => h) (Or.inl ⟨by rfl, ?_⟩) hHeld ?_ ?_
                    rotate_left
                    · rintro w' ⟨s0, s1, s2, s3, s4, s5, s6, s7, s8, s9⟩
                      go_simp
                      with_reducible rfl
                    rotate_left
                    · simp only [Act.put, List.setIfInBounds_toArray, List.set_cons_zero, List.set_cons_succ, i64_w, i32_w]
                      rfl
                    refine take_ (i := 14) (N := some 36) (v := ?_) (a' := ?_) #[true, true, true, true, true, true, true, true, true, true, true, true, true, true, true, true, false, false, false, false, false] rfl rfl (take_ofW HT_.out HW_.out (by kernel_rfl)) (fun _ _ _ h => h) (Or.inl ⟨by rfl, ?_⟩) hHeld ?_ ?_
                    rotate_left
                    · rintro w' ⟨s0, s1, s2, s3, s4, s5, s6, s7, s8, s9⟩
                      go_simp
                      with_reducible rfl
                    rotate_left
                    · simp only [Act.put, List.setIfInBounds_toArray, List.set_cons_zero, List.set_cons_succ, i64_w, i32_w]
                      rfl
                    refine pure_ (i := 16) (N := some 38) (v := ?_) (a' := ?_) #[true, true, true, true, true, true, true, true, true, true, true, true, true, true, true, true, true, false, false, false, false] rfl rfl (any_of HT_.out (by kernel_rfl)) (fun _ _ _ h => h) (Or.inl ⟨by rfl, ?_⟩) ?_ ?_
                    rotate_left
                    · intro w'
                      go_simp
                      with_reducible rfl
                    rotate_left
                    · simp only [Act.put, List.setIfInBounds_toArray, List.set_cons_zero, List.set_cons_succ, i64_w, i32_w]
                      rfl
                    refine pure_ (i := 17) (N := some 39) (v := ?_) (a' := ?_) #[true, true, true, true, true, true, true, true, true, true, true, true, true, true, true, true, true, true, false, false, false] rfl rfl (any_of HT_.out (by kernel_rfl)) (fun _ _ _ h => h) (Or.inl ⟨by rfl, ?_⟩) ?_ ?_
                    rotate_left
                    · intro w'
                      go_simp
                      with_reducible rfl
                    rotate_left
                    · simp only [Act.put, List.setIfInBounds_toArray, List.set_cons_zero, List.set_cons_succ, i64_w, i32_w]
                      rfl
                    refine take_ (i := 18) (N := some 40) (v := ?_) (a' := ?_) #[true, true, true, true, true, true, true, true, true, true, true, true, true, true, true, true, true, true, true, false, false] rfl rfl (take_ofW HT_.out HW_.out (by kernel_rfl)) (fun _ _ _ h => h) (Or.inl ⟨by rfl, ?_⟩) hHeld ?_ ?_
                    rotate_left
                    · rintro w' ⟨s0, s1, s2, s3, s4, s5, s6, s7, s8, s9⟩
                      go_simp
                      with_reducible rfl
                    rotate_left
                    · simp only [Act.put, List.setIfInBounds_toArray, List.set_cons_zero, List.set_cons_succ, i64_w, i32_w]
                      rfl
                    refine one_ (i := 19) (N := some 41) #[true, true, true, true, true, true, true, true, true, true, true, true, true, true, true, true, true, true, true, true, false] rfl rfl (one_of HT_.out (by kernel_rfl)) (by decide) (fun K hK => ?_)
                    refine goes_ Try.func46 (by kernel_rfl) rfl #[.slice Ao9 x3_2.length co9, .int .u64 ((rd_T51 ((rd_T30 l0 x4_1).f2) x5_2).f0), .int .u64 ((rd_T51 ((rd_T30 l0 x4_1).f2) x5_2).f1)] (by rfl) rfl rfl (by (try simp only [List.map_toArray, List.map_cons, List.map_nil]); first | done | rfl | (simp only [List.length_drop, List.length_take]; rfl)) ?_
                    with_reducible refine (skylightref13_Put.calls k2 _ _ x3_2 ((rd_T51 ((rd_T30 l0 x4_1).f2) x5_2).f0) ((rd_T51 ((rd_T30 l0 x4_1).f2) x5_2).f1) t228 _ ?side1 ?side2 A7.out).mono ?_
                    (case side1 => repeat (first | exact (Kd.R_reads' HO_3.out).2.2 | (with_reducible refine Kd.C_alloc ?_ _) | (with_reducible refine Kd.C_drewN ?_ _) | (with_reducible refine Kd.C_drew ?_)))
                    (case side2 => exact (Kd.R_reads' HO_3.out).2.1)
                    rintro e w10 ⟨v229, rfl, ho0, hb⟩
                    refine ⟨_, rfl, ?_⟩
                    have n0_ := Aside0.mk (Kd.R_elder' (by (with_reducible repeat (first | apply Kd.R_alloc | apply Kd.R_drewN | apply Kd.R_drew)); exact HO_3.out) (Kd.R_base ho0) hb)
                    have n1_ := Aside0.mk (Kd.R_lower (Kd.R_new' ho0 (Kd.R_lt (by (with_reducible repeat (first | apply Kd.R_alloc | apply Kd.R_drewN | apply Kd.R_drew)); exact HO_3.out))) (below_size (by repeat (first | (with_reducible first | exact HB.out | apply below_alloc | apply pw_below_drewN | apply below_drew1) | exact HB.out))))
                    have n2_ := Aside0.mk (below_step (by repeat (first | (with_reducible first | exact HB.out | apply below_alloc | apply pw_below_drewN | apply below_drew1) | exact HB.out)) hb)
                    clear HO_3
                    clear HB
                    have HO_3 := n0_
                    have HO230 := n1_
                    have HB := n2_
                    clear n0_ n1_ n2_
                    (try clear hb)
                    (try clear hb2)
                    (try clear hk)
                    (try clear hi)
                    (try clear ho0)
                    refine hK.out _ _ ⟨((HB.out.cell (World.block_lt_of_cell? w _ hw224_0)).trans hw224_0), ((HB.out.cell (World.block_lt_of_cell? w _ hw224_1)).trans hw224_1), ((HB.out.cell (World.block_lt_of_cell? w _ hw224_2)).trans hw224_2), ((HB.out.cell (World.block_lt_of_cell? w _ hw225_0)).trans hw225_0), ((HB.out.cell (World.block_lt_of_cell? w _ hw225_1)).trans hw225_1), ((HB.out.cell (World.block_lt_of_cell? w _ hw226_0)).trans hw226_0), ((HB.out.cell (World.block_lt_of_cell? w _ hw226_1)).trans hw226_1), ((HB.out.cell (World.block_lt_of_cell? w _ hw226_2)).trans hw226_2), ((HB.out.cell (World.block_lt_of_cell? w _ hw227_0)).trans hw227_0), ((HB.out.cell (World.block_lt_of_cell? w _ hw227_1)).trans hw227_1)⟩ (fun hHeld => ?_)
                    clear hK K
                    refine norm_ (a' := ?_) ?_ ?_
                    rotate_left
                    · show Act.put _ (some 41) _ = _
                      simp only [Act.put, List.setIfInBounds_toArray, List.set_cons_zero, List.set_cons_succ, i64_w, i32_w]
                      rfl
                    refine pure_ (i := 20) (N := some 3) (v := ?_) (a' := ?_) #[true, true, true, true, true, true, true, true, true, true, true, true, true, true, true, true, true, true, true, true, true] rfl rfl (any_of HT_.out (by kernel_rfl)) (fun _ _ _ h => h) (Or.inl ⟨by rfl, ?_⟩) ?_ ?_
                    rotate_left
                    · intro w'
                      go_simp
                      with_reducible rfl
                    rotate_left
                    · simp only [Act.put, List.setIfInBounds_toArray, List.set_cons_zero, List.set_cons_succ, i64_w, i32_w]
                      rfl
                    refine done_ (done_of HT_.out (by kernel_rfl)) ?_
                    try go_wp2
                    go_roundg k2
                    case measure => have := HK1.out; have := HK2.out; omega
                    case rel => exact ⟨(t228), (wrap64 (x5_2 + 1)), (by first | rfl | (simp; done) | (simp [*]; done)), H', ⟨by have := HK1.out; have := HK2.out; omega⟩, ⟨by (with_reducible repeat (first | apply Kd.R_alloc | apply Kd.R_drewN | apply Kd.R_drew)); exact Kd.R_mono HO230.out (fun _ hk => trivial)⟩, ⟨by repeat (first | (with_reducible first | exact HB.out | apply below_alloc | apply pw_below_drewN | apply below_drew1) | exact HB.out)⟩⟩
                  · rw [if_neg c6] at H
                    exact absurd H (by simp)
                · rw [if_neg c5] at H
                  have c5b0 : decide (x5_2 < (((rd_T30 l0 x4_1).f2).length : Int)) = false := decide_eq_false c5
                  clear c5
                  have H' := Aside0.mk H
                  clear H
                  have p223 : 0 ≤ (x4_1 : Int) := of_decide_eq_true (by first | (with_reducible assumption) | assumption)
                  have q223 : x4_1 < (l0.length : Int) := of_decide_eq_true (by first | (with_reducible assumption) | assumption)
                  obtain ⟨ad223, A223_2, c223_2, e223, hx223_0, hx223_1, hx223_2, hl223_2, hi223_2⟩ := at_T30 HR0.out x4_1 p223 q223
                  cases e223
                  replace hx223_0 := (HB.out.cell (World.block_lt_of_cell? w _ hx223_0)).trans hx223_0
                  replace hx223_1 := (HB.out.cell (World.block_lt_of_cell? w _ hx223_1)).trans hx223_1
                  replace hx223_2 := (HB.out.cell (World.block_lt_of_cell? w _ hx223_2)).trans hx223_2
                  have HR223_2 := Aside0.mk hi223_2
                  have HC223_2 := Aside0.mk hl223_2
                  clear hi223_2 hl223_2
                  replace p223 := eq_true p223
                  replace q223 := eq_true q223
                  go_wp2
                  go_roundg k2
                  case measure => have := HK1.out; have := HK2.out; omega
                  case rel => exact ⟨(x3_2), (wrap64 (x4_1 + 1)), (by first | rfl | (simp; done) | (simp [*]; done)), H', ⟨by have := HK1.out; have := HK2.out; omega⟩, ⟨by (with_reducible repeat (first | apply Kd.R_alloc | apply Kd.R_drewN | apply Kd.R_drew)); exact HO_3.out⟩, ⟨by repeat (first | (with_reducible first | exact HB.out | apply below_alloc | apply pw_below_drewN | apply below_drew1) | exact HB.out)⟩⟩
              · rw [if_neg c4] at H
                exact absurd H (by simp)
            · rw [if_neg c3] at H
              exact absurd H (by simp)
      · rw [if_neg c2] at H
        have c2b0 : decide (x4_1 < (l0.length : Int)) = false := decide_eq_false c2
        clear c2
        obtain rfl := Option.some.inj H
        go_wp2
        go_ret
        exact ⟨_, by first | rfl | (simp [errW_none, errW_some] <;> rfl) | (simp [*, errW_none, errW_some] <;> rfl), by (with_reducible repeat (first | apply Kd.R_alloc | apply Kd.R_drewN | apply Kd.R_drew)); exact HO_3.out, by repeat (first | (with_reducible first | exact HB.out | apply below_alloc | apply pw_below_drewN | apply below_drew1) | exact HB.out)⟩

end Go.Proofs.Ytohginlodlijkaa.PH
