/- The contract of hash.Columns: the columns of several rows, in turn (a loop over an iterator that reads the seeds). Condition: at most 1000000 seeds. -/
import Derived.RangeFuncBox
import Derived.RangeFuncNested
import Derived.RangeFuncLeaves
import Derived.Shelf.Abstract
import Derived.OwnWalkIn
import Derived.TacticsInMore
import Derived.LoopNIn
import Derived.LoopIn
import Derived.Maps.AppendAt
import Derived.Test.YtjlafoimapmjaaaPAx3
namespace Go.Proofs.Ytjlafoimapmjaaa.PA
open Go.RowKit Go.Shelf Go.Proofs.YtjlafoimapmjaaaW.PrintWords Go.Proofs.YtjlafoimapmjaaaW.PrintLast Go.Proofs.YtjlafoimapmjaaaW.PrintMore
attribute [local go_sem] Oper.semAt_some

/-- The columns of the seeds, in turn. -/
def colsOf (a1 a2 : Int) : List S30 → Option (List Int)
  | [] => some []
  | s :: l => (hash_Column.f 100 s.f0 s.f1 a1 a2).bind fun c => (colsOf a1 a2 l).bind fun r => some (c :: r)
def hash_Columns.f (l0 : List S30) (a1 a2 : Int) : Option (List Int) := if l0.length ≤ 1000000 then colsOf a1 a2 l0 else none

theorem colsOf_length {a1 a2 : Int} : ∀ {l : List S30} {r : List Int}, colsOf a1 a2 l = some r → r.length = l.length
  | [], r, h => by simp [colsOf] at h; subst h; rfl
  | s :: l, r, h => by
    simp only [colsOf, Option.bind_eq_some_iff] at h
    obtain ⟨c, _, q, hq, hr⟩ := h
    obtain rfl := Option.some.inj hr
    simp [colsOf_length hq]
theorem colsOf_at {a1 a2 : Int} : ∀ {l : List S30} {r : List Int}, colsOf a1 a2 l = some r → ∀ k, k < l.length → hash_Column.f 100 (l.getD k z30).f0 (l.getD k z30).f1 a1 a2 = some (r[k]?.getD 0)
  | [], r, h, k, hk => by simp at hk
  | s :: l, r, h, k, hk => by
    simp only [colsOf, Option.bind_eq_some_iff] at h
    obtain ⟨c, hc, q, hq, hr⟩ := h
    obtain rfl := Option.some.inj hr
    cases k with
    | zero => simpa using hc
    | succ k => simpa using colsOf_at hq k (by simpa using hk)

theorem addr_block (a : Addr) (n : Nat) : (a.add n).block = a.block := by unfold Addr.add; split <;> rfl
theorem take_snoc_getD (zs : List Int) {k : Nat} (h : k < zs.length) : zs.take k ++ [zs[k]?.getD 0] = zs.take (k + 1) := by
  rw [List.take_succ_eq_append_getElem h, List.getElem?_eq_getElem h]; rfl

set_option maxHeartbeats 1000000 in
/-- columns: what is captured is boxed. -/
theorem columns_in (F : Fence) (n : Nat) (h : F.fn 36) (hro : F.round = none) (a : Option Addr) (len cap : Nat) (x y : Int) (w : World) :
    CallsIn F n Try.prog 36 #[.slice a len cap, .int .u64 x, .int .i64 y] w fun e w' => e = .returned (.func (.func 38) #[] #[.pointer (some ⟨w.heap.size, 0, none⟩), .pointer (some ⟨w.heap.size + 1, 0, none⟩), .pointer (some ⟨w.heap.size + 2, 0, none⟩)])
      ∧ w' = ((w.alloc (.cells #[.slice a len cap] 35)).alloc (.cells #[.int .u64 x] 22)).alloc (.cells #[.int .i64 y] 3) := by
  refine callsIn_of_wp Try.func36 rfl h ?_ hro
  simp only [Try.ntmps36, List.size_toArray, List.length_cons, List.length_nil, Nat.reduceAdd, Nat.reduceSub, Array.replicate_succ, Array.replicate_zero, List.push_toArray, List.append_toArray, List.nil_append, List.cons_append]
  gi_wp2
  go_ret
  exact ⟨rfl, rfl⟩

/-- What a round keeps: each block below n₁ but B. -/
structure KpB (B n₁ : Nat) (W W' : World) : Prop where
  size : W.heap.size ≤ W'.heap.size
  block : ∀ b, b < n₁ → b ≠ B → W'.heap[b]? = W.heap[b]?
theorem KpB.refl (B n₁ : Nat) (W : World) : KpB B n₁ W W := ⟨Nat.le_refl _, fun _ _ _ => rfl⟩
theorem KpB.trans {B n₁ : Nat} {W1 W2 W3 : World} (h : KpB B n₁ W1 W2) (k : KpB B n₁ W2 W3) : KpB B n₁ W1 W3 := ⟨Nat.le_trans h.size k.size, fun b h1 h2 => (k.block b h1 h2).trans (h.block b h1 h2)⟩
theorem KpB.below {B n₁ n : Nat} {W1 W2 : World} (h : Below n W1 W2) (hn : n₁ ≤ n) : KpB B n₁ W1 W2 := ⟨h.size, fun b h1 _ => h.block b (Nat.lt_of_lt_of_le h1 hn)⟩
theorem KpB.cell {B n₁ : Nat} {W1 W2 : World} (h : KpB B n₁ W1 W2) {p : Addr} (h1 : p.block < n₁) (h2 : p.block ≠ B) : W2.cell? p = W1.cell? p := by
  unfold World.cell?
  rw [h.block p.block h1 h2]

set_option maxRecDepth 100000 in
set_option maxHeartbeats 4000000 in
theorem cols1_in (n : Nat) (hn : 2 ≤ n) (l Bs Bx Bw n₀ : Nat) (A : Option Addr) (cap : Nat) (zs : List S30) (x y : Int) (cs : List Int) (hzs : zs.length ≤ 1000000) (hcs : colsOf x y zs = some cs)
    (h1 : Bs < n₀) (h2 : Bx < n₀) (h3 : Bw < n₀) (B : Nat) (g1 : Bs ≠ B) (g2 : Bx ≠ B) (g3 : Bw ≠ B) (J Jx : List Int → World → Prop)
    (hY : ∀ pre c W, J pre W → pre.length < zs.length → YieldAt Fence.wide (n - 1) Try.prog l #[.int .i64 c] W fun e W' =>
      (e = .returned (.bool true) ∧ J (pre ++ [c]) W' ∧ KpB B n₀ W W') ∨ (e = .returned (.bool false) ∧ Jx (pre ++ [c]) W'))
    (W : World) (hJA : ∀ pre W1 W2, J pre W1 → Below W1.heap.size W1 W2 → J pre W2)
    (hs : W.cell? ⟨Bs, 0, none⟩ = some (.slice A zs.length cap)) (hx : W.cell? ⟨Bx, 0, none⟩ = some (.int .u64 x)) (hw : W.cell? ⟨Bw, 0, none⟩ = some (.int .i64 y))
    (hC : k30.C W A zs.length zs) (hb : ∀ ad, A = some ad → 0 < zs.length → ad.block < n₀ ∧ ad.block ≠ B) (h0 : J [] W) (hsz : n₀ ≤ W.heap.size) :
    CallsIn Fence.wide n Try.prog 38 #[.func (.yield l) #[] #[], .pointer (some ⟨Bs, 0, none⟩), .pointer (some ⟨Bx, 0, none⟩), .pointer (some ⟨Bw, 0, none⟩)] W fun e W' => (∃ v, e = .returned v) ∧
      ((∃ ys, ys = cs ∧ J ys W') ∨ (∃ pre, pre <+: cs ∧ Jx pre W')) := by
  have hcl := colsOf_length hcs
  have HCL := Aside0.mk hcl
  clear hcl
  have HAT := Aside0.mk (colsOf_at hcs)
  clear hcs
  refine callsIn_of_wp Try.func38 rfl trivial ?_ rfl
  simp only [Try.ntmps38, List.size_toArray, List.length_cons, List.length_nil, Nat.reduceAdd, Nat.reduceSub, Array.replicate_succ, Array.replicate_zero, List.push_toArray, List.append_toArray, List.nil_append, List.cons_append]
  gi_wp2
  gi_loopw [9] (fun i wr => ∃ k : Nat, k ≤ zs.length ∧ i = .int .i64 k ∧ J (cs.take k) wr ∧ KpB B n₀ W wr)
    (fun i _ => zs.length - (intOf i).toNat)
  case atStart => exact ⟨0, Nat.zero_le _, rfl, by simpa using h0, KpB.refl _ _ _⟩
  case round =>
    obtain ⟨k, hk, rfl, hJs, hnx⟩ := hrel
    by_cases hlt : k < zs.length
    · have hcx : k < cs.length := by rw [HCL.out]; exact hlt
      obtain ⟨ad, e1, hc0, hc1⟩ := at_T30 hC (k : Int) (by omega) (by omega)
      cases e1
      obtain ⟨hbk, hbB⟩ := hb ad rfl (by omega)
      have hc0' := (hnx.cell (p := ad.add ((k : Int).toNat * 2)) (by rw [addr_block]; exact hbk) (by rw [addr_block]; exact hbB)).trans hc0
      have hc1' := (hnx.cell (p := ⟨(ad.add ((k : Int).toNat * 2)).block, (ad.add ((k : Int).toNat * 2)).off + 1, none⟩) (by show (ad.add _).block < n₀; rw [addr_block]; exact hbk) (by show (ad.add _).block ≠ B; rw [addr_block]; exact hbB)).trans hc1
      have hs' := (hnx.cell (p := ⟨Bs, 0, none⟩) h1 g1).trans hs
      have hx' := (hnx.cell (p := ⟨Bx, 0, none⟩) h2 g2).trans hx
      have hw' := (hnx.cell (p := ⟨Bw, 0, none⟩) h3 g3).trans hw
      have hn0 := hnx.size
      clear hc0 hc1 hs hx hw
      have HC := HAT.out k hlt
      have e2 : rd_T30 zs (k : Int) = zs.getD k z30 := rfl
      rw [e2, Int.toNat_natCast] at hc0' hc1'
      generalize zs.getD k z30 = z at *
      have HZ := Aside0.mk HC
      clear HC e2
      have lx : Bx < wr.heap.size := by omega
      have lw : Bw < wr.heap.size := by omega
      clear hn0 hcx
      have HN := Aside0.mk hnx
      clear hnx
      have HJ := Aside0.mk hJs
      clear hJs
      gi_wp2_with fail
      refine ⟨trivial, fun _ => by omega, (callsIn_wide.2 (hash_Column.calls 100 _ _ x y _ _ HZ.out)).mono ?_⟩
      rintro e w1 ⟨rfl, hb1⟩
      have hbw : Below wr.heap.size wr w1 := ((Below.refl _ wr).alloc (Nat.le_refl _) _).trans (hb1.mono (by simp))
      obtain ⟨fn, tmps, assign, body, hy, hR⟩ := hY _ (cs[k]?.getD 0) w1 (hJA _ _ _ HJ.out hbw) (by rw [List.length_take]; omega)
      clear hb1
      gi_wp2
      refine ⟨fun _ => by omega, hR.mono ?_⟩
      rintro e W3 (⟨rfl, hJ3, hk3⟩ | ⟨rfl, hJx3⟩)
      · gi_wp2
        go_roundw
        case rel => exact ⟨k + 1, by omega, by simp, by rw [← take_snoc_getD _ (by rw [HCL.out]; exact hlt)]; exact hJ3, HN.out.trans ((KpB.below hbw (Nat.le_trans hsz HN.out.size)).trans hk3)⟩
        case measure => simp [intOf]; omega
      · gi_wp2
        refine bodyPost_ret (results_none rfl _ _ _) rfl ?_
        exact ⟨⟨_, rfl⟩, .inr ⟨_, by rw [take_snoc_getD _ (by rw [HCL.out]; exact hlt)]; exact List.take_prefix _ _, hJx3⟩⟩
    · obtain rfl : k = zs.length := by omega
      gi_wp2
      go_end0
      exact ⟨⟨_, rfl⟩, .inl ⟨_, by rw [← HCL.out, List.take_length], hJs⟩⟩

/-- columns(..) hands back an iterator over the columns. -/
theorem columns_stops (n : Nat) (hn : 2 ≤ n) (Bs Bx Bw n₀ B : Nat) (A : Option Addr) (cap : Nat) (zs : List S30) (x y : Int) (cs : List Int) (hzs : zs.length ≤ 1000000) (hcs : colsOf x y zs = some cs)
    (w : World) (h1 : Bs < n₀) (h2 : Bx < n₀) (h3 : Bw < n₀) (g1 : Bs ≠ B) (g2 : Bx ≠ B) (g3 : Bw ≠ B) (hn₀ : n₀ ≤ w.heap.size)
    (hs : w.cell? ⟨Bs, 0, none⟩ = some (.slice A zs.length cap)) (hx : w.cell? ⟨Bx, 0, none⟩ = some (.int .u64 x)) (hw : w.cell? ⟨Bw, 0, none⟩ = some (.int .i64 y))
    (hC : k30.C w A zs.length zs) (hb : ∀ ad, A = some ad → 0 < zs.length → ad.block < n₀ ∧ ad.block ≠ B) :
    SeqStopsK Fence.wide n Try.prog 38 #[.pointer (some ⟨Bs, 0, none⟩), .pointer (some ⟨Bx, 0, none⟩), .pointer (some ⟨Bw, 0, none⟩)] (fun c : Int => #[Value.int .i64 c]) (KpB B n₀) (fun ys => ys = cs) (fun pre => pre <+: cs) zs.length w := fun l J Jx W hW hJ _ hY h0 =>
  cols1_in n hn l Bs Bx Bw n₀ A cap zs x y cs hzs hcs h1 h2 h3 B g1 g2 g3 J Jx hY W (fun pre W1 W2 hj hB => hJ pre W1 W2 none hj (grown_of_below hB none) (fun r e => by cases e))
    ((hW.cell (p := ⟨Bs, 0, none⟩) (Nat.lt_of_lt_of_le h1 hn₀)).trans hs) ((hW.cell (p := ⟨Bx, 0, none⟩) (Nat.lt_of_lt_of_le h2 hn₀)).trans hx) ((hW.cell (p := ⟨Bw, 0, none⟩) (Nat.lt_of_lt_of_le h3 hn₀)).trans hw)
    (Kd.C_below hC hW) hb h0 (Nat.le_trans hn₀ hW.size)

theorem seeds_block {w : World} {A : Option Addr} {zs : List S30} (hC : k30.C w A zs.length zs) : ∀ ad, A = some ad → 0 < zs.length → ad.block < w.heap.size := by
  intro ad e h
  obtain ⟨ad', e1, hc, _⟩ := at_T30 hC 0 (by omega) (by omega)
  rw [e] at e1
  cases e1
  have := World.block_lt_of_cell? w _ hc
  rwa [addr_block] at this

theorem kpB_b {w : World} {B n₁ : Nat} (hn : n₁ ≤ w.heap.size) (W : World) (l : Nat) (o o' : Obj) (hl : w.heap.size ≤ l) (_ : W.heap[l]? = some o) (_ : o.isCells = false) (_ : o.isWalk = false) : KpB B n₁ W (W.putObj l o') :=
  ⟨by simp, fun b h1 _ => World.putObj_heap_other (by omega)⟩

theorem kpB_appended {W w1 : World} {n₁ B e size k : Nat} {v v' : Value} {xs : List Value} {tmp : Obj} (hrow : W.ownsRow n₁ e size v k xs) (hn : n₁ ≤ W.heap.size) (hgrow : (W.alloc tmp).grownBy w1 v.ownBlock) : KpB B n₁ W (w1.setCell ⟨B, 0, none⟩ v') := by
  refine ⟨?_, fun b h1 h2 => ?_⟩
  · have h1 := hgrow.size
    have h2 := (grownBy_setCell' w1 B v').size
    simp at h1
    omega
  · rw [Below.heap_setCell w1 ⟨B, 0, none⟩ v' b h2, hgrow.block b (by simp; omega) (fun e' => by have := own_base hrow b e'.symm; omega), Below.heap_alloc _ _ b (by omega)]

set_option maxRecDepth 100000 in
set_option maxHeartbeats 4000000 in
theorem Columns_in (A : Option Addr) (cap : Nat) (zs : List S30) (x y : Int) (cs : List Int) (hzs : zs.length ≤ 1000000) (hcs : colsOf x y zs = some cs) (w : World) (hC : k30.C w A zs.length zs) :
    CallsIn Fence.wide 5 Try.prog 29 #[.slice A zs.length cap, .int .u64 x, .int .i64 y] w fun e W' => ∃ v, e = .returned v ∧ W'.ownsRow w.heap.size 3 1 v cs.length (cs.map (Value.int .i64)) ∧ Below w.heap.size w W' := by
  obtain ⟨i0, hi, hz0, hz1, hz2⟩ := info_parts info3
  have hcl := colsOf_length hcs
  refine callsIn_of_wp_marks Try.func29 rfl trivial ?_ rfl
  simp only [Try.ntmps29, List.size_toArray, List.length_cons, List.length_nil, Nat.reduceAdd, Nat.reduceSub, Array.replicate_succ, Array.replicate_zero, List.push_toArray, List.append_toArray, List.nil_append, List.cons_append]
  gi_wp2_with (refine ⟨trivial, ?_⟩; gi_at_call 36; refine (columns_in Fence.wide 4 trivial rfl _ _ _ _ _ _).mono ?_; rintro e w' ⟨rfl, rfl⟩)
  have bO := Boxed.new w 36 (.slice none 0 0)
  have bS := Boxed.new (w.alloc (.cells #[.slice none 0 0] 36)) 35 (.slice A zs.length cap)
  have bX := Boxed.new ((w.alloc (.cells #[.slice none 0 0] 36)).alloc (.cells #[.slice A zs.length cap] 35)) 22 (.int .u64 x)
  have bW := Boxed.new (((w.alloc (.cells #[.slice none 0 0] 36)).alloc (.cells #[.slice A zs.length cap] 35)).alloc (.cells #[.int .u64 x] 22)) 3 (.int .i64 y)
  simp only [World.size_alloc] at bS bX bW
  have hB0 : Below w.heap.size w ((((w.alloc (.cells #[.slice none 0 0] 36)).alloc (.cells #[.slice A zs.length cap] 35)).alloc (.cells #[.int .u64 x] 22)).alloc (.cells #[.int .i64 y] 3)) :=
    ((((Below.refl _ w).alloc (Nat.le_refl _) _).alloc (by simp) _).alloc (by simp; omega) _).alloc (by simp; omega) _
  have bO' := ((bO.alloc (.cells #[.slice A zs.length cap] 35)).alloc (.cells #[.int .u64 x] 22)).alloc (.cells #[.int .i64 y] 3)
  have bS' := (bS.alloc (.cells #[.int .u64 x] 22)).alloc (.cells #[.int .i64 y] 3)
  have bX' := bX.alloc (.cells #[.int .i64 y] 3)
  clear bO bS bX
  have hz : ((((w.alloc (.cells #[.slice none 0 0] 36)).alloc (.cells #[.slice A zs.length cap] 35)).alloc (.cells #[.int .u64 x] 22)).alloc (.cells #[.int .i64 y] 3)).heap.size = w.heap.size + 4 := by simp
  generalize ((((w.alloc (.cells #[.slice none 0 0] 36)).alloc (.cells #[.slice A zs.length cap] 35)).alloc (.cells #[.int .u64 x] 22)).alloc (.cells #[.int .i64 y] 3)) = W0 at *
  have hC0 := Kd.C_below hC hB0
  have HZ := Aside0.mk hz
  have HCL := Aside0.mk hcl
  clear hcl hz
  refine wpIn_rangeFunc_ownG rfl (by omega) (gf := 38) (lb := #[.pointer (some ⟨w.heap.size + 1, 0, none⟩), .pointer (some ⟨w.heap.size + 1 + 1, 0, none⟩), .pointer (some ⟨w.heap.size + 1 + 2, 0, none⟩)]) rfl trivial (enters_of Try.func38 (by kernel_rfl) rfl)
    (columns_stops 4 (by omega) (w.heap.size + 1) (w.heap.size + 1 + 1) (w.heap.size + 1 + 2) (w.heap.size + 4) w.heap.size A cap zs x y cs hzs hcs W0 (by omega) (by omega) (by omega) (by omega) (by omega) (by omega) (by rw [HZ.out]; omega) bS'.cell bX'.cell bW.cell hC0
      (fun ad e h => by have := seeds_block hC ad e h; omega)) KpB.trans (kpB_b (by rw [HZ.out]; omega)) (Below.refl _ _) (fun _ => rfl)
    (fun (pre : List Int) W => (∃ v, Boxed W w.heap.size 36 v ∧ W.ownsRow (w.heap.size + 4) 3 1 v pre.length (pre.map (Value.int .i64)) ∧ True) ∧ Boxed W (w.heap.size + 1 + 1 + 1) 3 (.int .i64 y) ∧ Below w.heap.size w W)
    (fun _ _ _ => False)
    (OwnFrom.and (Own.from (holdsRow_own (w.heap.size + 4) w.heap.size 36 3 1 (fun (pre : List Int) => pre.length) (fun pre => pre.map (Value.int .i64)) (fun _ _ => True)) _) (OwnFrom.and (Own.from (boxed_own _ _ _) _) (ownFrom_below (Nat.le_refl _) (by rw [HZ.out]; omega))))
    (fun _ _ _ _ _ hs _ _ => hs)
    ⟨⟨_, bO', World.ownsRow_nil _ _ _ _, trivial⟩, bW, hB0⟩
    (fun c => { tmps := #[.slice A zs.length cap, .int .u64 x, .int .i64 y, undef, undef, undef, .slice none 0 0, .pointer (some ⟨w.heap.size, 0, none⟩), .int .i64 c, .slice A zs.length cap, .int .u64 x, .int .i64 y, .func (.func 38) #[] #[.pointer (some ⟨w.heap.size + 1, 0, none⟩), .pointer (some ⟨w.heap.size + 1 + 1, 0, none⟩), .pointer (some ⟨w.heap.size + 1 + 2, 0, none⟩)], .int .i64 c, undef, undef, undef, undef, undef], defers := [] }) ?assign ?body ?done ?stop
  case assign =>
    intro l x W K hK
    gi_wp2
    exact hK
  case body =>
    rintro l pre c W ⟨⟨v, hv, hrow, _⟩, hv3, hB⟩ hlt
    have hc := hv.cell
    have h4 : w.heap.size + 4 ≤ W.heap.size := by have := hv3.lt; omega
    have HV3 := Aside0.mk hv3
    have HB := Aside0.mk hB
    clear hv3 hB
    gi_wp2_with (gi_at_builtin; refine wpListIn_append_own _ rfl _ _ 36 rfl (w.heap.size + 4) 3 i0 (.int .i64 0) 1 8 Try.underlying36 hi hz0 hz1 hz2 rfl (by decide) _ _ _ rfl (hrow.alloc _) ⟨W.heap.size, 0, none⟩ 1 1 [.int .i64 c] rfl rfl (cell_one_new _ _ _) (by simp [Value.oneCell']) (by unfold maxLen; omega) (by omega) (by simp; omega) ?_; intro v' w1 hown' hgrow _; obtain ⟨g', cap', rfl⟩ := ownsRow_succ hown'; obtain ⟨hv1, hv2, _, hk2, hb2⟩ := hv.appended (by decide) (own_weaken hrow (by omega)) HB.out.size (Nat.le_refl _) (own_weaken hown' (by omega)) hgrow; have hkp := Aside0.mk (kpB_appended (B := w.heap.size) (v' := .slice (some ⟨g', 0, none⟩) (pre.length + 1) cap') hrow h4 hgrow); have hr2 := Aside0.mk (hown'.kept (grownBy_setCell' w1 w.heap.size (.slice (some ⟨g', 0, none⟩) (pre.length + 1) cap')) (.inr (hv1.not_row (by decide) hown').symm)); have hc1 := hv1.cell; have hf1 := hv1.frozen)
    exact ⟨hk2.from _, hkp.out, ⟨_, hv2, by simpa using hr2.out, trivial⟩, (hkp.out.block _ (by omega) (by omega)).trans HV3.out, HB.out.trans hb2⟩
  case done =>
    rintro D ys W hD rfl ⟨⟨v, hv, hrow, _⟩, _, hB⟩ hK
    have hc := hv.cell
    gi_wp2
    refine ⟨by simp, .inl ⟨_, _, rfl, run_takeDeferred hK, ?_⟩⟩
    exact ⟨_, results_tmp rfl _ _ _, v, rfl, own_weaken (ownsRow_putObj hrow _ hK rfl) (by omega), hB.trans (belowK_b (w := w) (Nat.le_refl _) W D _ _ (by rw [HZ.out] at hD; omega) hK rfl rfl)⟩
  case stop =>
    rintro D c pre W _ _ h _
    exact h.elim
theorem hash_Columns.calls (A0 : Option Addr) (c0 : Nat) (l0 : List S30) (a1 a2 : Int) (r : List Int) (w : World) (hr0 : Kd.C k30 w A0 l0.length l0) (_hc0 : l0.length ≤ c0) (h : hash_Columns.f l0 a1 a2 = some r) :
    Calls Try.prog 29 #[.slice A0 l0.length c0, .int .u64 a1, .int .i64 a2] w fun e w' => ∃ v0_ : Value, e = .returned (v0_) ∧ Kd.R (Kd.int .i64) 3 w' w.heap.size (fun _ => True) v0_ r ∧ Below w.heap.size w w' := by
  unfold hash_Columns.f at h
  split at h
  · rename_i hl
    refine (callsIn_wide.1 (Columns_in A0 c0 l0 a1 a2 r hl h w hr0)).mono ?_
    rintro e w' ⟨v, rfl, ho, hb⟩
    exact ⟨v, rfl, Kd.R_of_own ho (fun _ _ => trivial), hb⟩
  · simp at h
end Go.Proofs.Ytjlafoimapmjaaa.PA
