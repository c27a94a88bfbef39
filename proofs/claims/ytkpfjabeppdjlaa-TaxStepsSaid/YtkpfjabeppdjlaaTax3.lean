/- What each band takes of an amount ('band.held'): the iterator's contract. -/
import Derived.RangeFuncNested
import Derived.RangeFuncBound
import Derived.RangeFuncCalls
import Derived.RangeFuncLeaves
import Derived.RangeFuncBox
import Derived.Shelf.Abstract
import Derived.Shelf.RegionOpen
import Derived.WalkKit
import Derived.OwnWalkIn
import Derived.TacticsInMore
import Derived.LoopNIn
import Derived.LoopIn
import Derived.Test.YtkpfjabeppdjlaaTax2
namespace Go.Proofs.Ytkpfjabeppdjlaa
open Go.RowKit Go.Shelf

attribute [local go_sem] Oper.semAt_some

def bF (t : List (Int × Int)) (i : Nat) : Int := (t.getD i (0, 0)).1
def bR (t : List (Int × Int)) (i : Nat) : Int := (t.getD i (0, 0)).2
/-- Up to where band i goes. -/
def bTo (x d : Int) (t : List (Int × Int)) (i : Nat) : Int := if i + 1 < t.length then min x (bF t (i + 1) * d) else x
/-- What came when i bands are over. -/
def ylds (x d : Int) (t : List (Int × Int)) : Nat → List (Int × Int)
  | 0 => []
  | i + 1 => if bF t i * d < bTo x d t i then ylds x d t i ++ [(bR t i, bTo x d t i - bF t i * d)] else ylds x d t i
theorem ylds_length (x d : Int) (t : List (Int × Int)) (i : Nat) : (ylds x d t i).length ≤ i := by
  induction i with
  | zero => simp [ylds]
  | succ i ih =>
    unfold ylds
    split
    · rw [List.length_append]; simp; omega
    · omega

/-- A part that may come: a rate, and how much. -/
abbrev Part := { p : Int × Int // 0 ≤ p.1 ∧ p.1 ≤ 1000000 ∧ 0 < p.2 ∧ p.2 ≤ 450359962737049600 }
/-- A table that was checked. -/
structure Right (t : List (Int × Int)) : Prop where
  len : t.length ≤ 64
  first : 0 < t.length → bF t 0 = 0
  rise : ∀ i, i + 1 < t.length → bF t i < bF t (i + 1)
  most : ∀ i, i < t.length → bF t i ≤ 1125899906842624
  low : ∀ i, i < t.length → 0 ≤ bR t i
  high : ∀ i, i < t.length → bR t i ≤ 1000000
theorem Right.from0 {t : List (Int × Int)} (h : Right t) : ∀ i, i < t.length → 0 ≤ bF t i := by
  intro i
  induction i with
  | zero => intro hi; rw [h.first hi]; omega
  | succ i ih => intro hi; have := ih (by omega); have := h.rise i hi; omega

theorem mul_bd {f d : Int} (h0 : 0 ≤ f) (h : f ≤ 1125899906842624) (hd0 : 1 ≤ d) (hd : d ≤ 400) : 0 ≤ f * d ∧ f * d ≤ 450359962737049600 :=
  ⟨Int.mul_nonneg h0 (by omega), Int.le_trans (Int.mul_le_mul h hd (by omega) (by omega)) (by omega)⟩

theorem mul_up {f g d : Int} (h : f < g) (hd0 : 1 ≤ d) : f * d < g * d := Int.mul_lt_mul_of_pos_right h (by omega)
theorem abide_alloc {β : Type} {J : β → World → Prop} (hJ : ∀ s A B, J s A → World.grownBy A B none → J s B) {s : β} {W : World} (h : J s W) (o : Obj) : J s (W.alloc o) := hJ s W _ h (World.grownBy_alloc W o none)
theorem abide_drewN {β : Type} {J : β → World → Prop} (hJ : ∀ s A B, J s A → World.grownBy A B none → J s B) {s : β} {W : World} (h : J s W) (n : Nat) : J s (W.drewN n) := hJ s W _ h ⟨rfl, rfl, rfl, Nat.le_refl _, fun _ _ _ => rfl⟩

/-- Below n₀, and in the blocks of l, nothing has turned. -/
structure KB (n₀ : Nat) (l : List Nat) (W W' : World) : Prop where
  below : Below n₀ W W'
  same : ∀ k, k ∈ l → W'.heap[k]? = W.heap[k]?
theorem KB.refl (n₀ : Nat) (l : List Nat) (W : World) : KB n₀ l W W := ⟨Below.refl _ _, fun _ _ => rfl⟩
theorem KB.trans {n₀ : Nat} {l : List Nat} {A B C : World} (h : KB n₀ l A B) (k : KB n₀ l B C) : KB n₀ l A C := ⟨h.below.trans k.below, fun i hi => (k.same i hi).trans (h.same i hi)⟩
theorem KB.alloc {n₀ : Nat} {l : List Nat} {A B : World} (h : KB n₀ l A B) (hn : n₀ ≤ B.heap.size) (hl : ∀ k, k ∈ l → k < B.heap.size) (o : Obj) : KB n₀ l A (B.alloc o) :=
  ⟨h.below.alloc hn o, fun k hk => (Below.heap_alloc B o k (hl k hk)).trans (h.same k hk)⟩
theorem KB.drewN {n₀ : Nat} {l : List Nat} {A B : World} (h : KB n₀ l A B) (n : Nat) : KB n₀ l A (B.drewN n) := ⟨below_dN h.below n, h.same⟩
theorem KB.setCell {n₀ : Nat} {l : List Nat} {A B : World} (h : KB n₀ l A B) {p : Addr} (hn : n₀ ≤ p.block) (hl : ∀ k, k ∈ l → k ≠ p.block) (u : Value) : KB n₀ l A (B.setCell p u) :=
  ⟨h.below.setCell hn u, fun k hk => (Below.heap_setCell B p u k (hl k hk)).trans (h.same k hk)⟩
theorem KB.cell {n₀ : Nat} {l : List Nat} {A B : World} (h : KB n₀ l A B) {p : Addr} (hp : p.block ∈ l) : B.cell? p = A.cell? p := World.cell?_of_block (h.same _ hp)

theorem next_some {ys : List Part} {p : Part} {l l' : List (Int × Int)} {a to r v : Int} (h : ys.map (·.1) = l) (h' : l' = if a < to then l ++ [(r, to - a)] else l) (hlt : a < to) (hp : p.1 = (r, v)) (hv : v = to - a) : (ys ++ [p]).map (·.1) = l' := by
  rw [h', if_pos hlt, List.map_append, h, ← hv, ← hp]; rfl
theorem next_none {ys : List Part} {l l' : List (Int × Int)} {a to r : Int} (h : ys.map (·.1) = l) (h' : l' = if a < to then l ++ [(r, to - a)] else l) (hlt : ¬ a < to) : ys.map (·.1) = l' := by
  rw [h', if_neg hlt, h]

set_option maxRecDepth 100000 in
set_option maxHeartbeats 1000000 in
theorem held1_in (n : Nat) (hn : 1 ≤ n) (l Bt Bi Bx n₀ b off cap : Nat) (t : List (Int × Int)) (x d : Int) (ht : Right t) (hx0 : 0 ≤ x) (hx : x ≤ 450359962737049600) (hd0 : 1 ≤ d) (hd : d ≤ 400)
    (hb : b < n₀) (J Jx : List Part → World → Prop) (hJ : ∀ s A B, J s A → World.grownBy A B none → J s B)
    (hY : ∀ pre p W, J pre W → pre.length < t.length → YieldAt Fence.wide (n - 1) Try.prog l #[.int .i64 p.1.1, .int .i64 p.1.2] W fun e W' =>
      (e = .returned (.bool true) ∧ J (pre ++ [p]) W' ∧ KB n₀ [Bt, Bi, Bx] W W') ∨ (e = .returned (.bool false) ∧ Jx (pre ++ [p]) W'))
    (W : World) (hn₀ : n₀ ≤ W.heap.size) (hBt : Bt < W.heap.size) (hBi : Bi < W.heap.size) (hBx : Bx < W.heap.size) (hcB : W.cell? ⟨Bt, 0, none⟩ = some (.slice (some ⟨b, off, none⟩) t.length cap)) (hci : W.cell? ⟨Bi, 0, none⟩ = some (.int .i64 d)) (hcx : W.cell? ⟨Bx, 0, none⟩ = some (.int .i64 x))
    (hc : ∀ j, j < t.length → W.cell? ⟨b, off + j * 2, none⟩ = some (.int .i64 (bF t j)) ∧ W.cell? ⟨b, off + j * 2 + 1, none⟩ = some (.int .i64 (bR t j))) (h0 : J [] W) :
    CallsIn Fence.wide n Try.prog 26 #[.func (.yield l) #[] #[], .pointer (some ⟨Bt, 0, none⟩), .pointer (some ⟨Bi, 0, none⟩), .pointer (some ⟨Bx, 0, none⟩)] W fun e W' => (∃ v, e = .returned v) ∧
      ((∃ ys, (ys.map (·.1) = ylds x d t t.length) ∧ J ys W') ∨ (∃ pre, (∃ k, k ≤ t.length ∧ pre.map (·.1) = ylds x d t k) ∧ Jx pre W')) := by
  refine callsIn_of_wp Try.func26 rfl trivial ?_ rfl
  simp only [Try.ntmps26, List.size_toArray, List.length_cons, List.length_nil, Nat.reduceAdd, Nat.reduceSub, Array.replicate_succ, Array.replicate_zero, List.push_toArray, List.append_toArray, List.nil_append, List.cons_append]
  gi_wp2
  gi_loopw [11] (fun i wr => ∃ (k : Nat) (ys : List Part), k ≤ t.length ∧ i = .int .i64 k ∧ (ys.map (·.1) = ylds x d t k) ∧ J ys wr ∧ KB n₀ [Bt, Bi, Bx] W wr)
    (fun i _ => t.length - (intOf i).toNat)
  case atStart => exact ⟨0, [], Nat.zero_le _, rfl, rfl, h0, KB.refl _ _ _⟩
  case round =>
    obtain ⟨k, ys, hk, rfl, hys, hJs, hnx⟩ := hrel
    have HY := Lib.hid hys
    clear hys
    by_cases hlt : k < t.length
    · have C0 : wr.cell? ⟨b, off + k * 2, none⟩ = some (.int .i64 (bF t k)) := (hnx.below.cell hb).trans (hc k hlt).1
      have C1 : wr.cell? ⟨b, off + k * 2 + 1, none⟩ = some (.int .i64 (bR t k)) := (hnx.below.cell hb).trans (hc k hlt).2
      have Ct : wr.cell? ⟨Bt, 0, none⟩ = some (.slice (some ⟨b, off, none⟩) t.length cap) := (hnx.cell (by simp)).trans hcB
      have Ci : wr.cell? ⟨Bi, 0, none⟩ = some (.int .i64 d) := (hnx.cell (by simp)).trans hci
      have Cx : wr.cell? ⟨Bx, 0, none⟩ = some (.int .i64 x) := (hnx.cell (by simp)).trans hcx
      have hsz := hnx.below.size
      have hbr : b < wr.heap.size := by omega
      have hbt : Bt < wr.heap.size := by omega
      have hbi : Bi < wr.heap.size := by omega
      have hbx : Bx < wr.heap.size := by omega
      have hall : ∀ k, k ∈ [Bt, Bi, Bx] → k < wr.heap.size := by simp; omega
      have HALL := Lib.hid hall
      clear hall
      have hm0 := mul_bd (ht.from0 k hlt) (ht.most k hlt) hd0 hd
      have hr0 := ht.low k hlt
      have hr1 := ht.high k hlt
      have hl64 := ht.len
      have hyl : ys.length < t.length := by
        have h1 := ylds_length x d t k
        rw [← HY.out, List.length_map] at h1
        omega
      by_cases h1 : k + 1 < t.length
      · have C2 : wr.cell? ⟨b, off + (k + 1) * 2, none⟩ = some (.int .i64 (bF t (k + 1))) := (hnx.below.cell hb).trans (hc (k + 1) h1).1
        have hm1 := mul_bd (ht.from0 (k + 1) h1) (ht.most (k + 1) h1) hd0 hd
        have hfg := mul_up (ht.rise k h1) hd0
        have HT := Lib.hid (show bTo x d t k = min x (bF t (k + 1) * d) by unfold bTo; rw [if_pos h1])
        have HS := Lib.hid (show ylds x d t (k + 1) = if bF t k * d < bTo x d t k then ylds x d t k ++ [(bR t k, bTo x d t k - bF t k * d)] else ylds x d t k from rfl)
        generalize bTo x d t k = to at *
        generalize bF t k = f at *
        generalize bF t (k + 1) = g at *
        generalize bR t k = r at *
        have hk1 : ((k : Int) + 1) < (t.length : Int) := by omega
        have hk5 : IntKind.i64.wrap ((k : Int) + 1) = (k : Int) + 1 := IntWalk.i64_in _ (by have := ht.len; omega)
        clear hc
        gi_wp2
        refine wpIn_wide.2 ?_
        by_cases hgx : g * d < x
        · obtain ⟨p, hp⟩ : ∃ p : Part, p.1 = (r, g * d - f * d) := ⟨⟨(r, g * d - f * d), hr0, hr1, by dsimp; omega, by dsimp; omega⟩, rfl⟩
          have HP := Lib.hid (next_some HY.out HS.out (show f * d < to by rw [HT.out]; omega) hp (by have := HT.out; omega))
          go_quiet (fail)
          rename_i nq
          have hbl : KB n₀ [Bt, Bi, Bx] W ((wr.alloc (.cells #[.int .i64 f, .int .i64 r] 48)).drewN nq) := (hnx.alloc (by omega) HALL.out _).drewN _
          obtain ⟨fn, tmps, assign, body, hy, hR⟩ := hY ys p ((wr.alloc (.cells #[.int .i64 f, .int .i64 r] 48)).drewN nq) (abide_drewN hJ (abide_alloc hJ hJs _) _) hyl
          rw [hp] at hy
          gi_wp2
          refine hR.mono ?_
          rintro e W3 (⟨rfl, hJ3, hk3⟩ | ⟨rfl, hJx3⟩)
          · gi_wp2
            go_roundw
            case rel => exact ⟨k + 1, ys ++ [p], by omega, by go_num, HP.out, hJ3, hbl.trans hk3⟩
            case measure => simp [intOf]; omega
          · gi_wp2
            refine bodyPost_ret (results_none rfl _ _ _) rfl ?_
            exact ⟨⟨_, rfl⟩, .inr ⟨ys ++ [p], ⟨k + 1, by omega, HP.out⟩, hJx3⟩⟩
        · by_cases hfx : f * d < x
          · obtain ⟨p, hp⟩ : ∃ p : Part, p.1 = (r, x - f * d) := ⟨⟨(r, x - f * d), hr0, hr1, by dsimp; omega, by dsimp; omega⟩, rfl⟩
            have HP := Lib.hid (next_some HY.out HS.out (show f * d < to by rw [HT.out]; omega) hp (by have := HT.out; omega))
            go_quiet (fail)
            rename_i nq
            have hbl : KB n₀ [Bt, Bi, Bx] W ((wr.alloc (.cells #[.int .i64 f, .int .i64 r] 48)).drewN nq) := (hnx.alloc (by omega) HALL.out _).drewN _
            obtain ⟨fn, tmps, assign, body, hy, hR⟩ := hY ys p ((wr.alloc (.cells #[.int .i64 f, .int .i64 r] 48)).drewN nq) (abide_drewN hJ (abide_alloc hJ hJs _) _) hyl
            rw [hp] at hy
            gi_wp2
            refine hR.mono ?_
            rintro e W3 (⟨rfl, hJ3, hk3⟩ | ⟨rfl, hJx3⟩)
            · gi_wp2
              go_roundw
              case rel => exact ⟨k + 1, ys ++ [p], by omega, by go_num, HP.out, hJ3, hbl.trans hk3⟩
              case measure => simp [intOf]; omega
            · gi_wp2
              refine bodyPost_ret (results_none rfl _ _ _) rfl ?_
              exact ⟨⟨_, rfl⟩, .inr ⟨ys ++ [p], ⟨k + 1, by omega, HP.out⟩, hJx3⟩⟩
          · have HP := Lib.hid (next_none HY.out HS.out (show ¬ f * d < to by rw [HT.out]; omega))
            go_quiet (fail)
            rename_i nq
            have hbl : KB n₀ [Bt, Bi, Bx] W ((wr.alloc (.cells #[.int .i64 f, .int .i64 r] 48)).drewN nq) := (hnx.alloc (by omega) HALL.out _).drewN _
            gi_wp2
            refine ⟨fun _ h => (by cases h), ?_⟩
            gi_wp2
            go_roundw
            case rel => exact ⟨k + 1, ys, by omega, by go_num, HP.out, abide_drewN hJ (abide_alloc hJ hJs _) _, hbl⟩
            case measure => simp [intOf]; omega
      · have hk1 : ¬ ((k : Int) + 1) < (t.length : Int) := by omega
        have HT := Lib.hid (show bTo x d t k = x by unfold bTo; rw [if_neg h1])
        have HS := Lib.hid (show ylds x d t (k + 1) = if bF t k * d < bTo x d t k then ylds x d t k ++ [(bR t k, bTo x d t k - bF t k * d)] else ylds x d t k from rfl)
        generalize bTo x d t k = to at *
        generalize bF t k = f at *
        generalize bR t k = r at *
        clear hc
        by_cases hfx : f * d < x
        · obtain ⟨p, hp⟩ : ∃ p : Part, p.1 = (r, x - f * d) := ⟨⟨(r, x - f * d), hr0, hr1, by dsimp; omega, by dsimp; omega⟩, rfl⟩
          have HP := Lib.hid (next_some HY.out HS.out (show f * d < to by rw [HT.out]; omega) hp (by have := HT.out; omega))
          have hbl : KB n₀ [Bt, Bi, Bx] W (wr.alloc (.cells #[.int .i64 f, .int .i64 r] 48)) := hnx.alloc (by omega) HALL.out _
          obtain ⟨fn, tmps, assign, body, hy, hR⟩ := hY ys p (wr.alloc (.cells #[.int .i64 f, .int .i64 r] 48)) (abide_alloc hJ hJs _) hyl
          rw [hp] at hy
          gi_wp2
          refine hR.mono ?_
          rintro e W3 (⟨rfl, hJ3, hk3⟩ | ⟨rfl, hJx3⟩)
          · gi_wp2
            go_roundw
            case rel => exact ⟨k + 1, ys ++ [p], by omega, by go_num, HP.out, hJ3, hbl.trans hk3⟩
            case measure => simp [intOf]; omega
          · gi_wp2
            refine bodyPost_ret (results_none rfl _ _ _) rfl ?_
            exact ⟨⟨_, rfl⟩, .inr ⟨ys ++ [p], ⟨k + 1, by omega, HP.out⟩, hJx3⟩⟩
        · have HP := Lib.hid (next_none HY.out HS.out (show ¬ f * d < to by rw [HT.out]; omega))
          have hbl : KB n₀ [Bt, Bi, Bx] W (wr.alloc (.cells #[.int .i64 f, .int .i64 r] 48)) := hnx.alloc (by omega) HALL.out _
          gi_wp2
          refine ⟨fun _ h => (by cases h), ?_⟩
          gi_wp2
          go_roundw
          case rel => exact ⟨k + 1, ys, by omega, by go_num, HP.out, abide_alloc hJ hJs _, hbl⟩
          case measure => simp [intOf]; omega
    · obtain rfl : k = t.length := by omega
      gi_wp2
      go_end0
      exact ⟨⟨_, rfl⟩, .inl ⟨ys, HY.out, hJs⟩⟩
end Go.Proofs.Ytkpfjabeppdjlaa
