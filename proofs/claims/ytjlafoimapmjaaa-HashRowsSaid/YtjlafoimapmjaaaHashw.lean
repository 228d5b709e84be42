/- HashWithin and HashRows, of numbers and lists. -/
import Derived.Test.YtjlafoimapmjaaaHashl
import Derived.Test.YtjlafoimapmjaaaPAx6
namespace Go.Proofs.Ytjlafoimapmjaaa.Pure
open Go.RowKit Go.Proofs.Ytjlafoimapmjaaa.PA Go.Proofs.YtjlafoimapmjaaaW.PrintWords Go.Proofs.YtjlafoimapmjaaaW.PrintLast Go.Proofs.YtjlafoimapmjaaaW.PrintMore

theorem colN_bd (a b x w : Int) (hw : 1 ≤ w) : 0 ≤ colN a b x w ∧ colN a b x w < w := by
  unfold colN
  rw [if_neg (by omega)]
  split
  · exact mod_bd _ _ hw
  · omega

theorem HashWithin_pure (a b x y : Int) (ha : (Lit.int .u64 a).wf = true) (hb : (Lit.int .u64 b).wf = true) (hx : (Lit.int .u64 x).wf = true) (hy : (Lit.int .u16 y).wf = true) : skylightlaw04_HashWithin.f 200 a b x y = some true := by
  obtain ⟨a0, a1⟩ := u64_of ha
  obtain ⟨b0, b1⟩ := u64_of hb
  obtain ⟨x0, x1⟩ := u64_of hx
  obtain ⟨y0, y1⟩ := u16_of hy
  unfold skylightlaw04_HashWithin.f
  have e1 : wrap64 (1 + wrap64 y) = 1 + y := by unfold wrap64; omega
  rw [e1, show (200 : Nat) = 195 + 5 from rfl, hawake_eq 195, col_eq 195 a b x (1 + y) a0 a1 b0 b1 x0 x1 (by omega), col_eq 195 a b x 1 a0 a1 b0 b1 x0 x1 (by omega)]
  have h1 := colN_bd a b x (1 + y) (by omega)
  have h2 := colN_bd a b x 1 (by omega)
  simp only [Option.bind_some, if_true]
  rw [if_pos h1.1, if_pos h1.2]
  congr 1
  rw [beq_iff_eq]
  omega

theorem colsOf_eq (x w : Int) (x0 : 0 ≤ x) (x1 : x < 18446744073709551616) (w1 : w < 9223372036854775808) : ∀ l : List S30, (∀ s ∈ l, (Lit.int .u64 s.f0).wf = true ∧ (Lit.int .u64 s.f1).wf = true) → colsOf x w l = some (l.map fun s => colN s.f0 s.f1 x w)
  | [], _ => rfl
  | s :: l, h => by
    obtain ⟨ha, hb⟩ := h s (by simp)
    obtain ⟨a0, a1⟩ := u64_of ha
    obtain ⟨b0, b1⟩ := u64_of hb
    simp only [colsOf]
    rw [show (100 : Nat) = 95 + 5 from rfl, col_eq 95 _ _ x w a0 a1 b0 b1 x0 x1 w1, colsOf_eq x w x0 x1 w1 l (fun s hs => h s (by simp [hs]))]
    rfl

theorem rows_l0 (l : List S30) (x w : Int) (x0 : 0 ≤ x) (x1 : x < 18446744073709551616) (w1 : w < 9223372036854775808) (h : ∀ s ∈ l, (Lit.int .u64 s.f0).wf = true ∧ (Lit.int .u64 s.f1).wf = true) (hl : l.length ≤ 20) (d : Nat) :
    ∀ (k i : Nat), i + d = l.length → d + 131 < k → skylightlaw04_HashRows.l0 k l x w true (l.map fun s => colN s.f0 s.f1 x w) (i : Int) = some true := by
  induction d with
  | zero =>
    intro k i hi hk
    obtain ⟨k, rfl⟩ : ∃ m, k = m + 1 := ⟨k - 1, by omega⟩
    simp only [skylightlaw04_HashRows.l0]
    rw [if_neg (by rw [List.length_map]; omega)]
  | succ d ih =>
    intro k i hi hk
    obtain ⟨k, rfl⟩ : ∃ m, k = m + 1 := ⟨k - 1, by omega⟩
    simp only [skylightlaw04_HashRows.l0]
    have hil : i < l.length := by omega
    obtain ⟨ha, hb⟩ := h l[i] (List.getElem_mem hil)
    obtain ⟨a0, a1⟩ := u64_of ha
    obtain ⟨b0, b1⟩ := u64_of hb
    have e1 : rd_T30 l (i : Int) = l[i] := by simp [rd_T30, hil]
    have e2 : rd (l.map fun s => colN s.f0 s.f1 x w) (i : Int) = colN l[i].f0 l[i].f1 x w := by simp [rd, hil]
    rw [if_pos (by rw [List.length_map]; omega), if_pos (by omega), if_pos (by omega), e1, e2]
    have hr := refCol_eq (k - 131) l[i].f0 l[i].f1 x w a0 a1 b0 x0 x1 w1
    rw [show k - 131 + 131 = k from by omega] at hr
    rw [hr]
    -- x w a0 a1 b0 x0 x1 w1]
    simp only [Option.bind_some, if_true]
    rw [show wrap64 ((i : Int) + 1) = ((i + 1 : Nat) : Int) from by unfold wrap64; omega]
    exact ih k (i + 1) (by omega) (by omega)

theorem HashRows_pure (l : List S30) (x w : Int) (h : ∀ s ∈ l, (Lit.int .u64 s.f0).wf = true ∧ (Lit.int .u64 s.f1).wf = true) (hx : (Lit.int .u64 x).wf = true) (hw : (Lit.int .i64 w).wf = true) : skylightlaw04_HashRows.f 200 l x w = some true := by
  obtain ⟨x0, x1⟩ := u64_of hx
  obtain ⟨w0, w1⟩ := i64_of hw
  unfold skylightlaw04_HashRows.f
  rw [show (200 : Nat) = 195 + 5 from rfl, hawake_eq 195]
  simp only [Option.bind_some]
  split
  · rfl
  · rename_i hl
    unfold hash_Columns.f
    rw [if_pos (by omega), colsOf_eq x w x0 x1 w1 l h]
    simp only [Option.bind_some]
    rw [if_pos (by rw [List.length_map])]
    have := rows_l0 l x w x0 x1 w1 h (by omega) l.length 200 0 (by omega) (by omega)
    simpa using this
end Go.Proofs.Ytjlafoimapmjaaa.Pure
