/- Out of: Txa. -/
import Derived.Test.YtgepbkldgnjpfaaGreatDoorRows
import Derived.Test.YtgepbkldgnjpfaaGreatDoorZgn
import Derived.BigQuiet
import Derived.Deep.QuietTactic
import Derived.Lib.Hide
import Derived.LoopIn
import Derived.LoopNIn
import Derived.OwnWalkIn
import Derived.RangeFuncBound
import Derived.RangeFuncBox
import Derived.RangeFuncCalls
import Derived.RangeFuncLeaves
import Derived.RangeFuncNested
import Derived.Shelf.Abstract
import Derived.Shelf.RegionOpen
import Derived.TacticsInMore
import Derived.WalkKit
import Derived.WalkLawsBesides
import Derived.WalkSpells
/- tax.Step and what it calls (gen/mktx.py). -/
namespace Go.Proofs.YtgepbkldgnjpfaaGreatDoor.Tx
open Go.RowKit

theorem ret_bool {a b : Bool} (h : a = b) : Ending.returned (.bool a) = .returned (.bool b) := by rw [h]
theorem ret_int {k : IntKind} {a b : Int} (h : a = b) : Ending.returned (.int k a) = .returned (.int k b) := by rw [h]
def fitsB (c : Int) : Bool := decide (-1125899906842624 ≤ c ∧ c ≤ 1125899906842624)
def amountB (c : Int) : Bool := decide (0 ≤ c ∧ c ≤ 1125899906842624)

set_option maxHeartbeats 400000 in
theorem tax_fits (c : Int) (w : World) :
    Calls Tryz.prog 80 #[.int .i64 c] w fun e w' => e = .returned (.bool (fitsB c)) ∧ w = w' := by
  unfold fitsB
  go_enter Tryz.func80, Tryz.ntmps80
  go_wp2
  all_goals
    go_ret
    exact ⟨ret_bool (by simp; omega), rfl⟩

set_option maxHeartbeats 400000 in
theorem tax_amount (c : Int) (w : World) :
    Calls Tryz.prog 102 #[.int .i64 c] w fun e w' => e = .returned (.bool (amountB c)) ∧ w = w' := by
  unfold amountB
  go_enter Tryz.func102, Tryz.ntmps102
  go_wp2
  all_goals
    go_ret
    exact ⟨ret_bool (by simp; omega), rfl⟩

end Go.Proofs.YtgepbkldgnjpfaaGreatDoor.Tx

namespace Go.Proofs.YtgepbkldgnjpfaaGreatDoor.Tx
open Go.RowKit

/-- What a slice holds: element i's cells, of 'sz' cells each. -/
def Sl {α : Type} (enc : α → List Value) (sz : Nat) (w : World) (B : Nat) (A : Option Addr) (L : List α) : Prop :=
  L ≠ [] → ∃ b off, A = some ⟨b, off, none⟩ ∧ b < B ∧ ∀ i x, L[i]? = some x → ∀ j u, (enc x)[j]? = some u → w.cell? ⟨b, off + i * sz + j, none⟩ = some u

def encBand (x : Int × Int) : List Value := [.int .i64 x.1, .int .i64 x.2]

def badAt (t : List (Int × Int)) (i : Nat) : Int :=
  if (i = 0 ∧ (t.getD i (0, 0)).1 ≠ 0) ∨ (0 < i ∧ (t.getD i (0, 0)).1 ≤ (t.getD (i - 1) (0, 0)).1) then 8
  else if 1125899906842624 < (t.getD i (0, 0)).1 ∨ (t.getD i (0, 0)).2 < 0 ∨ 1000000 < (t.getD i (0, 0)).2 then 2 else 0

/-- The first error among the first n bands; 0 if there is none. -/
def firstBad (t : List (Int × Int)) (n : Nat) : Int := (((List.range n).map (badAt t)).find? (· ≠ 0)).getD 0
def chkE (t : List (Int × Int)) : Int := if 64 < t.length then 5 else firstBad t t.length

theorem bcell {W w1 : World} (hb : Below W.heap.size W w1) : (∀ b o, b < W.heap.size → w1.cell? ⟨b, o, none⟩ = W.cell? ⟨b, o, none⟩) ∧ (∀ b o, b < W.heap.size → w1.frozen? ⟨b, o, none⟩ = W.frozen? ⟨b, o, none⟩) :=
  ⟨fun b o h => hb.cell (p := ⟨b, o, none⟩) h, fun b o h => hb.frozen (p := ⟨b, o, none⟩) h⟩
theorem below_dN {B : Nat} {a w : World} (h : Below B a w) (n : Nat) : Below B a (w.drewN n) := ⟨h.os, h.tape, h.output, h.size, h.block⟩

theorem bad0 {t : List (Int × Int)} {x y : Int} (h : t[0]? = some (x, y)) :
    (x ≠ 0 → badAt t 0 = 8) ∧ (x = 0 → (1125899906842624 < x ∨ y < 0 ∨ 1000000 < y) → badAt t 0 = 2) ∧ (x = 0 → ¬ (1125899906842624 < x ∨ y < 0 ∨ 1000000 < y) → badAt t 0 = 0) := by
  unfold badAt
  simp only [List.getD, h, Option.getD_some]
  refine ⟨fun h1 => by rw [if_pos (by simp [h1])], fun h1 h2 => by rw [if_neg (by simp [h1]), if_pos h2], fun h1 h2 => by rw [if_neg (by simp [h1]), if_neg h2]⟩
theorem badS {t : List (Int × Int)} {k : Nat} {x y x' y' : Int} (h : t[k]? = some (x, y)) (h' : t[k - 1]? = some (x', y')) (hk : 1 ≤ k) :
    (x ≤ x' → badAt t k = 8) ∧ (x' < x → (1125899906842624 < x ∨ y < 0 ∨ 1000000 < y) → badAt t k = 2) ∧ (x' < x → ¬ (1125899906842624 < x ∨ y < 0 ∨ 1000000 < y) → badAt t k = 0) := by
  unfold badAt
  simp only [List.getD, h, h', Option.getD_some]
  refine ⟨fun h1 => by rw [if_pos (by omega)], fun h1 h2 => by rw [if_neg (by omega), if_pos h2], fun h1 h2 => by rw [if_neg (by omega), if_neg h2]⟩
theorem firstBad_of {t : List (Int × Int)} {n : Nat} : ∀ k, k ≤ n → (∀ j, j < k → badAt t j = 0) → (k < n → badAt t k ≠ 0) → firstBad t n = if k < n then badAt t k else 0 := by
  intro k hk hz he
  unfold firstBad
  have hsp : List.range n = List.range k ++ (List.range (n - k)).map (k + ·) := by
    rw [← List.range_add]; congr 1; omega
  rw [hsp, List.map_append, List.find?_append]
  have h1 : ((List.range k).map (badAt t)).find? (· ≠ 0) = none := by
    rw [List.find?_eq_none]
    intro x hx
    obtain ⟨j, hj, rfl⟩ := List.mem_map.1 hx
    simp [hz j (List.mem_range.1 hj)]
  rw [h1, Option.none_or]
  by_cases hkn : k < n
  · rw [if_pos hkn]
    obtain ⟨m, hm⟩ : ∃ m, n - k = m + 1 := ⟨n - k - 1, by omega⟩
    rw [hm, List.range_succ_eq_map]
    simp [he hkn]
  · rw [if_neg hkn]
    have : n - k = 0 := by omega
    rw [this]
    rfl
theorem chk_bad {t : List (Int × Int)} {k : Nat} {e : Int} (h64 : ¬ 64 < t.length) (hz : ∀ j, j < k → badAt t j = 0) (hk : k < t.length) (he : badAt t k = e) (hne : e ≠ 0) : e = chkE t := by
  unfold chkE
  rw [if_neg h64, firstBad_of k (by omega) hz (fun _ => by rw [he]; exact hne), if_pos hk, he]
theorem chk_ok {t : List (Int × Int)} {k : Nat} (h64 : ¬ 64 < t.length) (hz : ∀ j, j < k → badAt t j = 0) (hk : k = t.length) : 0 = chkE t := by
  unfold chkE
  subst hk
  rw [if_neg h64, firstBad_of t.length (Nat.le_refl _) hz (fun h => absurd h (by omega)), if_neg (by omega)]
theorem bad_more {t : List (Int × Int)} {k : Nat} (hz : ∀ j, j < k → badAt t j = 0) (h : badAt t k = 0) : ∀ j, j < k + 1 → badAt t j = 0 := fun j hj => by
  rcases Nat.lt_succ_iff_lt_or_eq.1 hj with h1 | rfl
  · exact hz j h1
  · exact h

set_option maxHeartbeats 400000 in
theorem band_Check (t : List (Int × Int)) (A : Option Addr) (cap : Nat) (w : World) (hcap : t.length ≤ 9223372036854775807) (hs : Sl encBand 2 w w.heap.size A t) :
    Calls Tryz.prog 142 #[.slice A t.length cap] w fun e w' => e = .returned (.int .i64 (chkE t)) ∧ Below w.heap.size w w' := by
  by_cases h64 : 64 < t.length
  · go_enter Tryz.func142, Tryz.ntmps142
    go_wp2
    go_ret
    exact ⟨ret_int (by simp [chkE, h64]), Below.refl _ _⟩
  go_enter Tryz.func142, Tryz.ntmps142
  go_wp2
  go_loopw [10] (fun i wr => ∃ k : Nat, k ≤ t.length ∧ i = .int .i64 k ∧ (∀ j, j < k → badAt t j = 0) ∧ Below w.heap.size w wr) (fun i _ => t.length - (intOf i).toNat)
  case atStart => exact ⟨0, Nat.zero_le _, rfl, fun _ h => absurd h (by omega), Below.refl _ _⟩
  case round =>
    obtain ⟨k, hk, rfl, hz, hb⟩ := hrel
    by_cases hlt : k < t.length
    · obtain ⟨b, off, rfl, hB, hc⟩ := hs (by intro h; simp [h] at hlt)
      have HZ := Lib.hid hz
      clear hz
      obtain ⟨x, y, hxy⟩ : ∃ x y, t[k]? = some (x, y) := ⟨_, _, List.getElem?_eq_getElem hlt⟩
      have C0 : wr.cell? ⟨b, off + k * 2, none⟩ = some (.int .i64 x) := (hb.cell hB).trans (by simpa using hc k _ hxy 0 _ rfl)
      have C1 : wr.cell? ⟨b, off + k * 2 + 1, none⟩ = some (.int .i64 y) := (hb.cell hB).trans (hc k _ hxy 1 _ rfl)
      have hBr : b < wr.heap.size := Nat.lt_of_lt_of_le hB hb.size
      by_cases h0 : k = 0
      · subst h0
        have c0 : wr.cell? ⟨b, off, none⟩ = some (.int .i64 x) := by simpa using C0
        have c1 : wr.cell? ⟨b, off + 1, none⟩ = some (.int .i64 y) := by simpa using C1
        have HX := Lib.hid (bad0 hxy)
        clear hxy C0 C1 hc hs
        by_cases hx0 : x = 0
        · have hx1 : (x != 0) = false := by simp [hx0]
          have HX0 := Lib.hid hx0
          clear hx0
          go_wp2
          all_goals try go_quiet (fail)
          all_goals go_wp2
          all_goals first
            | (go_ret; exact ⟨ret_int (chk_bad h64 HZ.out hlt (HX.out.2.1 HX0.out (by omega)) (by omega)), below_dN (hb.alloc hb.size _) _⟩)
            | exact ⟨⟨1, by omega, rfl, bad_more HZ.out (HX.out.2.2 HX0.out (by have := HX0.out; omega)), below_dN (hb.alloc hb.size _) _⟩, by simp [intOf]; omega⟩
        · have hx1 : (x != 0) = true := by simp [hx0]
          have HX0 := Lib.hid hx0
          clear hx0
          go_wp2
          all_goals try go_quiet (fail)
          all_goals go_wp2
          go_ret
          exact ⟨ret_int (chk_bad h64 HZ.out hlt (HX.out.1 HX0.out) (by omega)), hb.alloc hb.size _⟩
      · have hp : decide (0 < k) = true := by simp; omega
        obtain ⟨x', y', hxy'⟩ : ∃ x y, t[k-1]? = some (x, y) := ⟨_, _, List.getElem?_eq_getElem (by omega)⟩
        have cm : wr.cell? ⟨b, off + (k - 1) * 2, none⟩ = some (.int .i64 x') := (hb.cell hB).trans (by simpa using hc (k - 1) _ hxy' 0 _ rfl)
        have hk1 : 1 ≤ k := by omega
        have HX := Lib.hid (badS hxy hxy' hk1)
        have k0 : ((k : Int) == 0) = false := by simp; omega
        clear hxy hxy' hc hs
        have hk2 : (0 : Int) ≤ (k : Int) - 1 := by omega
        have hk3 : (k : Int) - 1 < (t.length : Int) := by omega
        have hk4 : ((k : Int) - 1).toNat = k - 1 := by omega
        have hk5 : IntKind.i64.wrap ((k : Int) - 1) = (k : Int) - 1 := IntWalk.i64_in _ (by omega)
        clear h0
        go_wp2
        go_quiet (fail)
        go_wp2
        all_goals first
          | (go_ret; exact ⟨ret_int (chk_bad h64 HZ.out hlt (HX.out.1 (by omega)) (by omega)), below_dN (hb.alloc hb.size _) _⟩)
          | (go_ret; exact ⟨ret_int (chk_bad h64 HZ.out hlt (HX.out.2.1 (by omega) (by omega)) (by omega)), below_dN (hb.alloc hb.size _) _⟩)
          | exact ⟨⟨k + 1, by omega, by go_num, bad_more HZ.out (HX.out.2.2 (by omega) (by omega)), below_dN (hb.alloc hb.size _) _⟩, by simp [intOf]; omega⟩
    · have HZ := Lib.hid hz
      clear hz
      go_wp2
      go_ret
      exact ⟨ret_int (chk_ok h64 HZ.out (by omega)), hb⟩
end Go.Proofs.YtgepbkldgnjpfaaGreatDoor.Tx

namespace Go.Proofs.YtgepbkldgnjpfaaGreatDoor.Tx
open Go.RowKit Go.Shelf

attribute [local go_sem] Oper.semAt_some

def bF (t : List (Int × Int)) (i : Nat) : Int := (t.getD i (0, 0)).1
def bR (t : List (Int × Int)) (i : Nat) : Int := (t.getD i (0, 0)).2
/-- Up to where band i goes. -/
def bTo (x d : Int) (t : List (Int × Int)) (i : Nat) : Int := if i + 1 < t.length then min x (bF t (i + 1) * d) else x
/-- What came when i bands are over. -/
def ylds (x d : Int) (t : List (Int × Int)) : Nat → List (Int × Int)
  | 0 => []
  | i + 1 => if bF t i * d < bTo x d t i then ylds x d t i ++ [(bR t i, bTo x d t i - bF t i * d)] else ylds x d t i
theorem ylds_length (x d : Int) (t : List (Int × Int)) (i : Nat) : (ylds x d t i).length ≤ i := by
  induction i with
  | zero => simp [ylds]
  | succ i ih =>
    unfold ylds
    split
    · rw [List.length_append]; simp; omega
    · omega

/-- A part that may come: a rate, and how much. -/
abbrev Part := { p : Int × Int // 0 ≤ p.1 ∧ p.1 ≤ 1000000 ∧ 0 < p.2 ∧ p.2 ≤ 450359962737049600 }
/-- A table that was checked. -/
structure Right (t : List (Int × Int)) : Prop where
  len : t.length ≤ 64
  first : 0 < t.length → bF t 0 = 0
  rise : ∀ i, i + 1 < t.length → bF t i < bF t (i + 1)
  most : ∀ i, i < t.length → bF t i ≤ 1125899906842624
  low : ∀ i, i < t.length → 0 ≤ bR t i
  high : ∀ i, i < t.length → bR t i ≤ 1000000
theorem Right.from0 {t : List (Int × Int)} (h : Right t) : ∀ i, i < t.length → 0 ≤ bF t i := by
  intro i
  induction i with
  | zero => intro hi; rw [h.first hi]; omega
  | succ i ih => intro hi; have := ih (by omega); have := h.rise i hi; omega

theorem mul_bd {f d : Int} (h0 : 0 ≤ f) (h : f ≤ 1125899906842624) (hd0 : 1 ≤ d) (hd : d ≤ 400) : 0 ≤ f * d ∧ f * d ≤ 450359962737049600 :=
  ⟨Int.mul_nonneg h0 (by omega), Int.le_trans (Int.mul_le_mul h hd (by omega) (by omega)) (by omega)⟩

theorem mul_up {f g d : Int} (h : f < g) (hd0 : 1 ≤ d) : f * d < g * d := Int.mul_lt_mul_of_pos_right h (by omega)
theorem abide_alloc {β : Type} {J : β → World → Prop} (hJ : ∀ s A B, J s A → World.grownBy A B none → J s B) {s : β} {W : World} (h : J s W) (o : Obj) : J s (W.alloc o) := hJ s W _ h (World.grownBy_alloc W o none)
theorem abide_drewN {β : Type} {J : β → World → Prop} (hJ : ∀ s A B, J s A → World.grownBy A B none → J s B) {s : β} {W : World} (h : J s W) (n : Nat) : J s (W.drewN n) := hJ s W _ h ⟨rfl, rfl, rfl, Nat.le_refl _, fun _ _ _ => rfl⟩

/-- Below n₀, and in the blocks of l, nothing has turned. -/
structure KB (n₀ : Nat) (l : List Nat) (W W' : World) : Prop where
  below : Below n₀ W W'
  same : ∀ k, k ∈ l → W'.heap[k]? = W.heap[k]?
theorem KB.refl (n₀ : Nat) (l : List Nat) (W : World) : KB n₀ l W W := ⟨Below.refl _ _, fun _ _ => rfl⟩
theorem KB.trans {n₀ : Nat} {l : List Nat} {A B C : World} (h : KB n₀ l A B) (k : KB n₀ l B C) : KB n₀ l A C := ⟨h.below.trans k.below, fun i hi => (k.same i hi).trans (h.same i hi)⟩
theorem KB.alloc {n₀ : Nat} {l : List Nat} {A B : World} (h : KB n₀ l A B) (hn : n₀ ≤ B.heap.size) (hl : ∀ k, k ∈ l → k < B.heap.size) (o : Obj) : KB n₀ l A (B.alloc o) :=
  ⟨h.below.alloc hn o, fun k hk => (Below.heap_alloc B o k (hl k hk)).trans (h.same k hk)⟩
theorem KB.drewN {n₀ : Nat} {l : List Nat} {A B : World} (h : KB n₀ l A B) (n : Nat) : KB n₀ l A (B.drewN n) := ⟨below_dN h.below n, h.same⟩
theorem KB.setCell {n₀ : Nat} {l : List Nat} {A B : World} (h : KB n₀ l A B) {p : Addr} (hn : n₀ ≤ p.block) (hl : ∀ k, k ∈ l → k ≠ p.block) (u : Value) : KB n₀ l A (B.setCell p u) :=
  ⟨h.below.setCell hn u, fun k hk => (Below.heap_setCell B p u k (hl k hk)).trans (h.same k hk)⟩
theorem KB.cell {n₀ : Nat} {l : List Nat} {A B : World} (h : KB n₀ l A B) {p : Addr} (hp : p.block ∈ l) : B.cell? p = A.cell? p := World.cell?_of_block (h.same _ hp)

theorem next_some {ys : List Part} {p : Part} {l l' : List (Int × Int)} {a to r v : Int} (h : ys.map (·.1) = l) (h' : l' = if a < to then l ++ [(r, to - a)] else l) (hlt : a < to) (hp : p.1 = (r, v)) (hv : v = to - a) : (ys ++ [p]).map (·.1) = l' := by
  rw [h', if_pos hlt, List.map_append, h, ← hv, ← hp]; rfl
theorem next_none {ys : List Part} {l l' : List (Int × Int)} {a to r : Int} (h : ys.map (·.1) = l) (h' : l' = if a < to then l ++ [(r, to - a)] else l) (hlt : ¬ a < to) : ys.map (·.1) = l' := by
  rw [h', if_neg hlt, h]

set_option maxRecDepth 100000 in
set_option maxHeartbeats 1000000 in
theorem held1_in (n : Nat) (hn : 1 ≤ n) (l Bt Bi Bx n₀ b off cap : Nat) (t : List (Int × Int)) (x d : Int) (ht : Right t) (hx0 : 0 ≤ x) (hx : x ≤ 450359962737049600) (hd0 : 1 ≤ d) (hd : d ≤ 400)
    (hb : b < n₀) (J Jx : List Part → World → Prop) (hJ : ∀ s A B, J s A → World.grownBy A B none → J s B)
    (hY : ∀ pre p W, J pre W → pre.length < t.length → YieldAt Fence.wide (n - 1) Tryz.prog l #[.int .i64 p.1.1, .int .i64 p.1.2] W fun e W' =>
      (e = .returned (.bool true) ∧ J (pre ++ [p]) W' ∧ KB n₀ [Bt, Bi, Bx] W W') ∨ (e = .returned (.bool false) ∧ Jx (pre ++ [p]) W'))
    (W : World) (hn₀ : n₀ ≤ W.heap.size) (hBt : Bt < W.heap.size) (hBi : Bi < W.heap.size) (hBx : Bx < W.heap.size) (hcB : W.cell? ⟨Bt, 0, none⟩ = some (.slice (some ⟨b, off, none⟩) t.length cap)) (hci : W.cell? ⟨Bi, 0, none⟩ = some (.int .i64 d)) (hcx : W.cell? ⟨Bx, 0, none⟩ = some (.int .i64 x))
    (hc : ∀ j, j < t.length → W.cell? ⟨b, off + j * 2, none⟩ = some (.int .i64 (bF t j)) ∧ W.cell? ⟨b, off + j * 2 + 1, none⟩ = some (.int .i64 (bR t j))) (h0 : J [] W) :
    CallsIn Fence.wide n Tryz.prog 174 #[.func (.yield l) #[] #[], .pointer (some ⟨Bt, 0, none⟩), .pointer (some ⟨Bi, 0, none⟩), .pointer (some ⟨Bx, 0, none⟩)] W fun e W' => (∃ v, e = .returned v) ∧
      ((∃ ys, (ys.map (·.1) = ylds x d t t.length) ∧ J ys W') ∨ (∃ pre, (∃ k, k ≤ t.length ∧ pre.map (·.1) = ylds x d t k) ∧ Jx pre W')) := by
  refine callsIn_of_wp Tryz.func174 rfl trivial ?_ rfl
  simp only [Tryz.ntmps174, List.size_toArray, List.length_cons, List.length_nil, Nat.reduceAdd, Nat.reduceSub, Array.replicate_succ, Array.replicate_zero, List.push_toArray, List.append_toArray, List.nil_append, List.cons_append]
  gi_wp2
  gi_loopw [11] (fun i wr => ∃ (k : Nat) (ys : List Part), k ≤ t.length ∧ i = .int .i64 k ∧ (ys.map (·.1) = ylds x d t k) ∧ J ys wr ∧ KB n₀ [Bt, Bi, Bx] W wr)
    (fun i _ => t.length - (intOf i).toNat)
  case atStart => exact ⟨0, [], Nat.zero_le _, rfl, rfl, h0, KB.refl _ _ _⟩
  case round =>
    obtain ⟨k, ys, hk, rfl, hys, hJs, hnx⟩ := hrel
    have HY := Lib.hid hys
    clear hys
    by_cases hlt : k < t.length
    · have C0 : wr.cell? ⟨b, off + k * 2, none⟩ = some (.int .i64 (bF t k)) := (hnx.below.cell hb).trans (hc k hlt).1
      have C1 : wr.cell? ⟨b, off + k * 2 + 1, none⟩ = some (.int .i64 (bR t k)) := (hnx.below.cell hb).trans (hc k hlt).2
      have Ct : wr.cell? ⟨Bt, 0, none⟩ = some (.slice (some ⟨b, off, none⟩) t.length cap) := (hnx.cell (by simp)).trans hcB
      have Ci : wr.cell? ⟨Bi, 0, none⟩ = some (.int .i64 d) := (hnx.cell (by simp)).trans hci
      have Cx : wr.cell? ⟨Bx, 0, none⟩ = some (.int .i64 x) := (hnx.cell (by simp)).trans hcx
      have hsz := hnx.below.size
      have hbr : b < wr.heap.size := by omega
      have hbt : Bt < wr.heap.size := by omega
      have hbi : Bi < wr.heap.size := by omega
      have hbx : Bx < wr.heap.size := by omega
      have hall : ∀ k, k ∈ [Bt, Bi, Bx] → k < wr.heap.size := by simp; omega
      have HALL := Lib.hid hall
      clear hall
      have hm0 := mul_bd (ht.from0 k hlt) (ht.most k hlt) hd0 hd
      have hr0 := ht.low k hlt
      have hr1 := ht.high k hlt
      have hl64 := ht.len
      have hyl : ys.length < t.length := by
        have h1 := ylds_length x d t k
        rw [← HY.out, List.length_map] at h1
        omega
      by_cases h1 : k + 1 < t.length
      · have C2 : wr.cell? ⟨b, off + (k + 1) * 2, none⟩ = some (.int .i64 (bF t (k + 1))) := (hnx.below.cell hb).trans (hc (k + 1) h1).1
        have hm1 := mul_bd (ht.from0 (k + 1) h1) (ht.most (k + 1) h1) hd0 hd
        have hfg := mul_up (ht.rise k h1) hd0
        have HT := Lib.hid (show bTo x d t k = min x (bF t (k + 1) * d) by unfold bTo; rw [if_pos h1])
        have HS := Lib.hid (show ylds x d t (k + 1) = if bF t k * d < bTo x d t k then ylds x d t k ++ [(bR t k, bTo x d t k - bF t k * d)] else ylds x d t k from rfl)
        generalize bTo x d t k = to at *
        generalize bF t k = f at *
        generalize bF t (k + 1) = g at *
        generalize bR t k = r at *
        have hk1 : ((k : Int) + 1) < (t.length : Int) := by omega
        have hk5 : IntKind.i64.wrap ((k : Int) + 1) = (k : Int) + 1 := IntWalk.i64_in _ (by have := ht.len; omega)
        clear hc
        gi_wp2
        refine wpIn_wide.2 ?_
        by_cases hgx : g * d < x
        · obtain ⟨p, hp⟩ : ∃ p : Part, p.1 = (r, g * d - f * d) := ⟨⟨(r, g * d - f * d), hr0, hr1, by dsimp; omega, by dsimp; omega⟩, rfl⟩
          have HP := Lib.hid (next_some HY.out HS.out (show f * d < to by rw [HT.out]; omega) hp (by have := HT.out; omega))
          go_quiet (fail)
          rename_i nq
          have hbl : KB n₀ [Bt, Bi, Bx] W ((wr.alloc (.cells #[.int .i64 f, .int .i64 r] 221)).drewN nq) := (hnx.alloc (by omega) HALL.out _).drewN _
          obtain ⟨fn, tmps, assign, body, hy, hR⟩ := hY ys p ((wr.alloc (.cells #[.int .i64 f, .int .i64 r] 221)).drewN nq) (abide_drewN hJ (abide_alloc hJ hJs _) _) hyl
          rw [hp] at hy
          gi_wp2
          refine hR.mono ?_
          rintro e W3 (⟨rfl, hJ3, hk3⟩ | ⟨rfl, hJx3⟩)
          · gi_wp2
            go_roundw
            case rel => exact ⟨k + 1, ys ++ [p], by omega, by go_num, HP.out, hJ3, hbl.trans hk3⟩
            case measure => simp [intOf]; omega
          · gi_wp2
            refine bodyPost_ret (results_none rfl _ _ _) rfl ?_
            exact ⟨⟨_, rfl⟩, .inr ⟨ys ++ [p], ⟨k + 1, by omega, HP.out⟩, hJx3⟩⟩
        · by_cases hfx : f * d < x
          · obtain ⟨p, hp⟩ : ∃ p : Part, p.1 = (r, x - f * d) := ⟨⟨(r, x - f * d), hr0, hr1, by dsimp; omega, by dsimp; omega⟩, rfl⟩
            have HP := Lib.hid (next_some HY.out HS.out (show f * d < to by rw [HT.out]; omega) hp (by have := HT.out; omega))
            go_quiet (fail)
            rename_i nq
            have hbl : KB n₀ [Bt, Bi, Bx] W ((wr.alloc (.cells #[.int .i64 f, .int .i64 r] 221)).drewN nq) := (hnx.alloc (by omega) HALL.out _).drewN _
            obtain ⟨fn, tmps, assign, body, hy, hR⟩ := hY ys p ((wr.alloc (.cells #[.int .i64 f, .int .i64 r] 221)).drewN nq) (abide_drewN hJ (abide_alloc hJ hJs _) _) hyl
            rw [hp] at hy
            gi_wp2
            refine hR.mono ?_
            rintro e W3 (⟨rfl, hJ3, hk3⟩ | ⟨rfl, hJx3⟩)
            · gi_wp2
              go_roundw
              case rel => exact ⟨k + 1, ys ++ [p], by omega, by go_num, HP.out, hJ3, hbl.trans hk3⟩
              case measure => simp [intOf]; omega
            · gi_wp2
              refine bodyPost_ret (results_none rfl _ _ _) rfl ?_
              exact ⟨⟨_, rfl⟩, .inr ⟨ys ++ [p], ⟨k + 1, by omega, HP.out⟩, hJx3⟩⟩
          · have HP := Lib.hid (next_none HY.out HS.out (show ¬ f * d < to by rw [HT.out]; omega))
            go_quiet (fail)
            rename_i nq
            have hbl : KB n₀ [Bt, Bi, Bx] W ((wr.alloc (.cells #[.int .i64 f, .int .i64 r] 221)).drewN nq) := (hnx.alloc (by omega) HALL.out _).drewN _
            gi_wp2
            refine ⟨fun _ h => (by cases h), ?_⟩
            gi_wp2
            go_roundw
            case rel => exact ⟨k + 1, ys, by omega, by go_num, HP.out, abide_drewN hJ (abide_alloc hJ hJs _) _, hbl⟩
            case measure => simp [intOf]; omega
      · have hk1 : ¬ ((k : Int) + 1) < (t.length : Int) := by omega
        have HT := Lib.hid (show bTo x d t k = x by unfold bTo; rw [if_neg h1])
        have HS := Lib.hid (show ylds x d t (k + 1) = if bF t k * d < bTo x d t k then ylds x d t k ++ [(bR t k, bTo x d t k - bF t k * d)] else ylds x d t k from rfl)
        generalize bTo x d t k = to at *
        generalize bF t k = f at *
        generalize bR t k = r at *
        clear hc
        by_cases hfx : f * d < x
        · obtain ⟨p, hp⟩ : ∃ p : Part, p.1 = (r, x - f * d) := ⟨⟨(r, x - f * d), hr0, hr1, by dsimp; omega, by dsimp; omega⟩, rfl⟩
          have HP := Lib.hid (next_some HY.out HS.out (show f * d < to by rw [HT.out]; omega) hp (by have := HT.out; omega))
          have hbl : KB n₀ [Bt, Bi, Bx] W (wr.alloc (.cells #[.int .i64 f, .int .i64 r] 221)) := hnx.alloc (by omega) HALL.out _
          obtain ⟨fn, tmps, assign, body, hy, hR⟩ := hY ys p (wr.alloc (.cells #[.int .i64 f, .int .i64 r] 221)) (abide_alloc hJ hJs _) hyl
          rw [hp] at hy
          gi_wp2
          refine hR.mono ?_
          rintro e W3 (⟨rfl, hJ3, hk3⟩ | ⟨rfl, hJx3⟩)
          · gi_wp2
            go_roundw
            case rel => exact ⟨k + 1, ys ++ [p], by omega, by go_num, HP.out, hJ3, hbl.trans hk3⟩
            case measure => simp [intOf]; omega
          · gi_wp2
            refine bodyPost_ret (results_none rfl _ _ _) rfl ?_
            exact ⟨⟨_, rfl⟩, .inr ⟨ys ++ [p], ⟨k + 1, by omega, HP.out⟩, hJx3⟩⟩
        · have HP := Lib.hid (next_none HY.out HS.out (show ¬ f * d < to by rw [HT.out]; omega))
          have hbl : KB n₀ [Bt, Bi, Bx] W (wr.alloc (.cells #[.int .i64 f, .int .i64 r] 221)) := hnx.alloc (by omega) HALL.out _
          gi_wp2
          refine ⟨fun _ h => (by cases h), ?_⟩
          gi_wp2
          go_roundw
          case rel => exact ⟨k + 1, ys, by omega, by go_num, HP.out, abide_alloc hJ hJs _, hbl⟩
          case measure => simp [intOf]; omega
    · obtain rfl : k = t.length := by omega
      gi_wp2
      go_end0
      exact ⟨⟨_, rfl⟩, .inl ⟨ys, HY.out, hJs⟩⟩
end Go.Proofs.YtgepbkldgnjpfaaGreatDoor.Tx

namespace Go.Proofs.YtgepbkldgnjpfaaGreatDoor.Tx
open Go.RowKit Go.Shelf

attribute [local go_sem] Oper.semAt_some

/-- What a list of parts comes to. -/
def sumP : List (Int × Int) → Int
  | [] => 0
  | p :: l => p.1 * p.2 + sumP l
theorem sumP_append (a b : List (Int × Int)) : sumP (a ++ b) = sumP a + sumP b := by
  induction a with
  | nil => simp [sumP]
  | cons p a ih => simp only [List.cons_append, sumP, ih]; omega
/-- What a table takes, in millionths. -/
def tot (x d : Int) (t : List (Int × Int)) (k : Nat) : Int := sumP (ylds x d t k)
def half (T den : Int) : Int := T / den + if den - T % den ≤ T % den then 1 else 0
def scaledV (T of : Int) : Int × Int := if 1125899906842624 < half T (of * 1000000) then (0, 9) else (half T (of * 1000000), 0)

set_option maxRecDepth 100000 in
set_option maxHeartbeats 400000 in
theorem held1_nil_in (n : Nat) (l Bt : Nat) (v1 v2 : Value) (A : Option Addr) (cap : Nat) (J : List Part → World → Prop) (W : World) (hcB : W.cell? ⟨Bt, 0, none⟩ = some (.slice A 0 cap)) (h0 : J [] W) :
    CallsIn Fence.wide n Tryz.prog 174 #[.func (.yield l) #[] #[], .pointer (some ⟨Bt, 0, none⟩), v1, v2] W fun e W' => (∃ v, e = .returned v) ∧ J [] W' := by
  refine callsIn_of_wp Tryz.func174 rfl trivial ?_ rfl
  simp only [Tryz.ntmps174, List.size_toArray, List.length_cons, List.length_nil, Nat.reduceAdd, Nat.reduceSub, Array.replicate_succ, Array.replicate_zero, List.push_toArray, List.append_toArray, List.nil_append, List.cons_append]
  gi_wp2
  gi_loopw [11] (fun i wr => i = .int .i64 0 ∧ J [] wr) (fun _ _ => 0)
  case atStart => exact ⟨rfl, h0⟩
  case round =>
    obtain ⟨rfl, hJs⟩ := hrel
    gi_wp2
    go_end0
    exact ⟨⟨_, rfl⟩, hJs⟩

set_option maxHeartbeats 400000 in
theorem held_in (n : Nat) (x d : Int) (A : Option Addr) (len cap : Nat) (w : World) :
    CallsIn Fence.wide n Tryz.prog 143 #[.int .i64 x, .int .i64 d, .slice A len cap] w fun e w' =>
      e = .returned (.func (.func 174) #[] #[.pointer (some ⟨w.heap.size + 2, 0, none⟩), .pointer (some ⟨w.heap.size + 1, 0, none⟩), .pointer (some ⟨w.heap.size, 0, none⟩)]) ∧
      ((w.alloc (.cells #[.int .i64 x] 2)).alloc (.cells #[.int .i64 d] 3)).alloc (.cells #[.slice A len cap] 49) = w' := by
  refine callsIn_of_wp Tryz.func143 rfl trivial ?_ rfl
  simp only [Tryz.ntmps143, List.size_toArray, List.length_cons, List.length_nil, Nat.reduceAdd, Nat.reduceSub, Array.replicate_succ, Array.replicate_zero, List.push_toArray, List.append_toArray, List.nil_append, List.cons_append]
  gi_wp2
  go_ret
  exact ⟨rfl, rfl⟩

theorem Sl.below {α : Type} {enc : α → List Value} {sz B : Nat} {w w' : World} {A : Option Addr} {L : List α} (h : Sl enc sz w B A L) (hb : Below B w w') : Sl enc sz w' B A L := fun hne => by
  obtain ⟨b, off, rfl, hB, hc⟩ := h hne
  exact ⟨b, off, rfl, hB, fun i x hx j u hu => (hb.cell (p := ⟨b, _, none⟩) hB).trans (hc i x hx j u hu)⟩
theorem Sl.more {α : Type} {enc : α → List Value} {sz B B' : Nat} {w : World} {A : Option Addr} {L : List α} (h : Sl enc sz w B A L) (hb : B ≤ B') : Sl enc sz w B' A L := fun hne => by
  obtain ⟨b, off, rfl, hB, hc⟩ := h hne
  exact ⟨b, off, rfl, by omega, hc⟩

theorem held_stops (n : Nat) (hn : 1 ≤ n) (Bt Bi Bx n₀ cap : Nat) (A : Option Addr) (t : List (Int × Int)) (x d : Int) (ht : Right t) (hx0 : 0 ≤ x) (hx : x ≤ 450359962737049600) (hd0 : 1 ≤ d) (hd : d ≤ 400)
    (w : World) (hBt : Bt < w.heap.size) (hBi : Bi < w.heap.size) (hBx : Bx < w.heap.size) (hn₀ : n₀ ≤ w.heap.size) (hcB : w.cell? ⟨Bt, 0, none⟩ = some (.slice A t.length cap)) (hci : w.cell? ⟨Bi, 0, none⟩ = some (.int .i64 d)) (hcx : w.cell? ⟨Bx, 0, none⟩ = some (.int .i64 x))
    (hs : Sl encBand 2 w n₀ A t) :
    SeqStopsK Fence.wide n Tryz.prog 174 #[.pointer (some ⟨Bt, 0, none⟩), .pointer (some ⟨Bi, 0, none⟩), .pointer (some ⟨Bx, 0, none⟩)] (fun p : Part => #[Value.int .i64 p.1.1, Value.int .i64 p.1.2]) (KB n₀ [Bt, Bi, Bx])
      (fun ys => ys.map (·.1) = ylds x d t t.length) (fun pre => ∃ k, k ≤ t.length ∧ pre.map (·.1) = ylds x d t k) t.length w := fun l J Jx W hW hJ _ hY h0 => by
  have hcB' := (hW.cell (p := ⟨Bt, 0, none⟩) (by dsimp; omega)).trans hcB
  have hci' := (hW.cell (p := ⟨Bi, 0, none⟩) (by dsimp; omega)).trans hci
  have hcx' := (hW.cell (p := ⟨Bx, 0, none⟩) (by dsimp; omega)).trans hcx
  by_cases hne : t = []
  · subst hne
    exact (held1_nil_in n l Bt _ _ A cap J W hcB' h0).mono fun e W' ⟨he, hj⟩ => ⟨he, .inl ⟨[], rfl, hj⟩⟩
  · obtain ⟨b, off, rfl, hb, hc⟩ := hs hne
    have hz := hW.size
    refine held1_in n hn l Bt Bi Bx n₀ b off cap t x d ht hx0 hx hd0 hd hb J Jx (fun s A B hs hg => hJ s A B none hs hg (fun r e => by cases e)) hY W (by omega) (by omega) (by omega) (by omega) hcB' hci' hcx' (fun j hj => ?_) h0
    · have hx := List.getElem?_eq_getElem hj
      have h1 : bF t j = t[j].1 := by simp [bF, List.getD, hx]
      have h2 : bR t j = t[j].2 := by simp [bR, List.getD, hx]
      refine ⟨(hW.cell (p := ⟨b, _, none⟩) (by dsimp; omega)).trans ?_, (hW.cell (p := ⟨b, _, none⟩) (by dsimp; omega)).trans ?_⟩
      · rw [h1]; simpa using hc j _ hx 0 _ rfl
      · rw [h2]; simpa using hc j _ hx 1 _ rfl

theorem KB.drew {n₀ : Nat} {l : List Nat} {A B : World} (h : KB n₀ l A B) : KB n₀ l A B.drew := ⟨h.below.drew, h.same⟩
/-- Where a round of band.Scaled stands: what its cells hold, and what it has kept. -/
structure St (B z y : Nat) (w W W' : World) (t8 t9 t11 t12 : TypeId) (a8 a9 a11 a12 a13 : Value) : Prop where
  far : z + 2 ≤ y
  keeps : KeepsFrom B W W'
  kb : KB z [y + 5, y + 4, y + 3] W W'
  q8 : Boxed W' z t8 a8
  q9 : Boxed W' (z + 1) t9 a9
  q11 : Boxed W' y t11 a11
  q12 : Boxed W' (y + 1) t12 a12
  q13 : Boxed W' (y + 1 + 1) t12 a13
  bel : Below z w W'
section
variable {B z y : Nat} {w W W' : World} {t8 t9 t11 t12 : TypeId} {a8 a9 a11 a12 a13 : Value}
theorem St.drew (h : St B z y w W W' t8 t9 t11 t12 a8 a9 a11 a12 a13) : St B z y w W W'.drew t8 t9 t11 t12 a8 a9 a11 a12 a13 :=
  ⟨h.far, h.keeps.trans ((KeepsOthers.drew _).from _), h.kb.drew, h.q8, h.q9, h.q11, h.q12, h.q13, h.bel.drew⟩
theorem St.set8 (h : St B z y w W W' t8 t9 t11 t12 a8 a9 a11 a12 a13) (u : Value) : St B z y w W (W'.setCell ⟨z, 0, none⟩ u) t8 t9 t11 t12 u a9 a11 a12 a13 :=
  ⟨h.far, h.keeps.trans ((KeepsOthers.setCell _ _ _).from _), h.kb.setCell (p := ⟨z, 0, none⟩) (by have := h.far; dsimp; omega) (by have := h.far; dsimp; intro k hk; simp at hk; omega) u, h.q8.set u, h.q9.other (by have := h.far; omega) u, h.q11.other (by have := h.far; omega) u, h.q12.other (by have := h.far; omega) u, h.q13.other (by have := h.far; omega) u, h.bel.setCell (p := ⟨z, 0, none⟩) (by have := h.far; dsimp; omega) u⟩
theorem St.set9 (h : St B z y w W W' t8 t9 t11 t12 a8 a9 a11 a12 a13) (u : Value) : St B z y w W (W'.setCell ⟨z + 1, 0, none⟩ u) t8 t9 t11 t12 a8 u a11 a12 a13 :=
  ⟨h.far, h.keeps.trans ((KeepsOthers.setCell _ _ _).from _), h.kb.setCell (p := ⟨z + 1, 0, none⟩) (by have := h.far; dsimp; omega) (by have := h.far; dsimp; intro k hk; simp at hk; omega) u, h.q8.other (by have := h.far; omega) u, h.q9.set u, h.q11.other (by have := h.far; omega) u, h.q12.other (by have := h.far; omega) u, h.q13.other (by have := h.far; omega) u, h.bel.setCell (p := ⟨z + 1, 0, none⟩) (by have := h.far; dsimp; omega) u⟩
theorem St.set12 (h : St B z y w W W' t8 t9 t11 t12 a8 a9 a11 a12 a13) (u : Value) : St B z y w W (W'.setCell ⟨y + 1, 0, none⟩ u) t8 t9 t11 t12 a8 a9 a11 u a13 :=
  ⟨h.far, h.keeps.trans ((KeepsOthers.setCell _ _ _).from _), h.kb.setCell (p := ⟨y + 1, 0, none⟩) (by have := h.far; dsimp; omega) (by have := h.far; dsimp; intro k hk; simp at hk; omega) u, h.q8.other (by have := h.far; omega) u, h.q9.other (by have := h.far; omega) u, h.q11.other (by have := h.far; omega) u, h.q12.set u, h.q13.other (by have := h.far; omega) u, h.bel.setCell (p := ⟨y + 1, 0, none⟩) (by have := h.far; dsimp; omega) u⟩
theorem St.set13 (h : St B z y w W W' t8 t9 t11 t12 a8 a9 a11 a12 a13) (u : Value) : St B z y w W (W'.setCell ⟨y + 1 + 1, 0, none⟩ u) t8 t9 t11 t12 a8 a9 a11 a12 u :=
  ⟨h.far, h.keeps.trans ((KeepsOthers.setCell _ _ _).from _), h.kb.setCell (p := ⟨y + 1 + 1, 0, none⟩) (by have := h.far; dsimp; omega) (by have := h.far; dsimp; intro k hk; simp at hk; omega) u, h.q8.other (by have := h.far; omega) u, h.q9.other (by have := h.far; omega) u, h.q11.other (by have := h.far; omega) u, h.q12.other (by have := h.far; omega) u, h.q13.set u, h.bel.setCell (p := ⟨y + 1 + 1, 0, none⟩) (by have := h.far; dsimp; omega) u⟩
end

theorem step_nums (S den r m : Int) (hS0 : 0 ≤ S) (hr0 : 0 ≤ r) (hr1 : r ≤ 1000000) (hm0 : 0 < m) (hm1 : m ≤ 450359962737049600) (hd0 : 1000000 ≤ den) (hd1 : den ≤ 400000000) :
    0 ≤ m / den * r ∧ m / den * r ≤ 450359962737049600 ∧ 0 ≤ m % den * r ∧ m % den * r ≤ 400000000000000 ∧ 0 ≤ S / den ∧ (0 ≤ S % den ∧ S % den ≤ 400000000) ∧
    (S + r * m) / den = S / den + m / den * r + (S % den + m % den * r) / den ∧ (S + r * m) % den = (S % den + m % den * r) % den := by
  have e1 := Int.mul_ediv_add_emod m den
  have e2 := Int.mul_ediv_add_emod S den
  have b1 := Int.emod_nonneg m (show den ≠ 0 by omega)
  have b2 := Int.emod_lt_of_pos m (show 0 < den by omega)
  have b3 := Int.emod_nonneg S (show den ≠ 0 by omega)
  have b4 := Int.emod_lt_of_pos S (show 0 < den by omega)
  have d1 := Int.ediv_nonneg (show 0 ≤ m by omega) (show 0 ≤ den by omega)
  have d2 := Int.ediv_nonneg hS0 (show 0 ≤ den by omega)
  have hk : S + r * m = (S % den + m % den * r) + den * (S / den + m / den * r) := by
    have : r * m = r * (den * (m / den) + m % den) := by rw [e1]
    rw [this, Int.mul_add, Int.mul_add, ← Int.mul_assoc r den, Int.mul_comm r den, Int.mul_assoc den r, Int.mul_comm r (m / den), Int.mul_comm r (m % den)]
    omega
  refine ⟨Int.mul_nonneg d1 hr0, ?_, Int.mul_nonneg b1 hr0, ?_, d2, ⟨b3, by omega⟩, ?_, ?_⟩
  · have h1 : m / den * r ≤ m / den * den := Int.mul_le_mul_of_nonneg_left (by omega) d1
    rw [Int.mul_comm _ den] at h1
    omega
  · have h1 : m % den * r ≤ 400000000 * 1000000 := Int.mul_le_mul (by omega) hr1 hr0 (by omega)
    omega
  · rw [hk, Int.add_mul_ediv_left _ _ (by omega)]; omega
  · rw [hk, Int.add_mul_emod_self_left]

theorem boxed_at {W : World} {k : Nat} (hk : W.heap.size = k) (t : TypeId) (v : Value) : Boxed (W.alloc (.cells #[v] t)) k t v := hk ▸ Boxed.new W t v
theorem pair_ret {v : Int × Int} {a b : Int} (h : v = (a, b)) : Ending.returned (.tuple #[.int .i64 a, .int .i64 b]) = .returned (.tuple #[.int .i64 v.1, .int .i64 v.2]) := by rw [h]
theorem bad_all {t : List (Int × Int)} (h : chkE t = 0) : t.length ≤ 64 ∧ ∀ i, i < t.length → badAt t i = 0 := by
  unfold chkE at h
  by_cases h64 : 64 < t.length
  · rw [if_pos h64] at h; cases h
  · rw [if_neg h64] at h
    refine ⟨by omega, fun i hi => ?_⟩
    unfold firstBad at h
    cases hf : ((List.range t.length).map (badAt t)).find? (· ≠ 0) with
    | none =>
      have := List.find?_eq_none.1 hf (badAt t i) (List.mem_map.2 ⟨i, List.mem_range.2 hi, rfl⟩)
      simpa using this
    | some v =>
      rw [hf] at h
      have := List.find?_some hf
      simp at this h
      exact absurd h this
theorem right_of_chk {t : List (Int × Int)} (h : chkE t = 0) : Right t := by
  obtain ⟨h64, hb⟩ := bad_all h
  have key : ∀ i, i < t.length → ¬ ((i = 0 ∧ bF t i ≠ 0) ∨ (0 < i ∧ bF t i ≤ bF t (i - 1))) ∧ ¬ (1125899906842624 < bF t i ∨ bR t i < 0 ∨ 1000000 < bR t i) := by
    intro i hi
    have := hb i hi
    unfold badAt at this
    by_cases c1 : (i = 0 ∧ (t.getD i (0, 0)).1 ≠ 0) ∨ (0 < i ∧ (t.getD i (0, 0)).1 ≤ (t.getD (i - 1) (0, 0)).1)
    · rw [if_pos c1] at this; cases this
    · rw [if_neg c1] at this
      by_cases c2 : 1125899906842624 < (t.getD i (0, 0)).1 ∨ (t.getD i (0, 0)).2 < 0 ∨ 1000000 < (t.getD i (0, 0)).2
      · rw [if_pos c2] at this; cases this
      · exact ⟨c1, c2⟩
  refine ⟨h64, fun h0 => ?_, fun i hi => ?_, fun i hi => ?_, fun i hi => ?_, fun i hi => ?_⟩
  · have := (key 0 h0).1; omega
  · have := (key (i + 1) hi).1; simp only [Nat.add_sub_cancel] at this; omega
  · have := (key i hi).2; omega
  · have := (key i hi).2; omega
  · have := (key i hi).2; omega
theorem tot_up {x d : Int} {t : List (Int × Int)} (ht : Right t) : ∀ m k, k + m ≤ t.length → tot x d t k ≤ tot x d t (k + m) := by
  intro m
  induction m with
  | zero => intro k _; exact Int.le_refl _
  | succ m ih =>
    intro k hk
    have h1 := ih k (by omega)
    have h2 : tot x d t (k + m) ≤ tot x d t (k + m + 1) := by
      unfold tot
      rw [show ylds x d t (k + m + 1) = if bF t (k + m) * d < bTo x d t (k + m) then ylds x d t (k + m) ++ [(bR t (k + m), bTo x d t (k + m) - bF t (k + m) * d)] else ylds x d t (k + m) from rfl]
      split
      · rw [sumP_append]
        have := Int.mul_nonneg (ht.low (k + m) (by omega)) (show 0 ≤ bTo x d t (k + m) - bF t (k + m) * d by omega)
        simp only [sumP]
        omega
      · exact Int.le_refl _
    exact Int.le_trans h1 h2
theorem tot_nonneg {x d : Int} {t : List (Int × Int)} (ht : Right t) (k : Nat) (hk : k ≤ t.length) : 0 ≤ tot x d t k := by
  have := tot_up (x := x) (d := d) ht k 0 (by omega)
  simpa [tot, ylds, sumP] using this
theorem half_ge {T den : Int} : T / den ≤ half T den := by unfold half; split <;> omega

set_option maxRecDepth 100000 in
set_option maxHeartbeats 2000000 in
theorem band_Scaled_in (x d n : Int) (A : Option Addr) (cap : Nat) (t : List (Int × Int)) (w : World) (hcap : t.length ≤ 9223372036854775807) (hx0 : 0 ≤ x) (hx : x ≤ 450359962737049600) (hd0 : 1 ≤ d) (hd : d ≤ n) (hn : n ≤ 400)
    (hs : Sl encBand 2 w w.heap.size A t) :
    CallsIn Fence.wide 5 Tryz.prog 103 #[.int .i64 x, .int .i64 d, .int .i64 n, .slice A t.length cap] w fun e W' =>
      e = .returned (.tuple #[.int .i64 (if chkE t ≠ 0 then (0, chkE t) else scaledV (tot x d t t.length) n).1, .int .i64 (if chkE t ≠ 0 then (0, chkE t) else scaledV (tot x d t t.length) n).2]) ∧ Below w.heap.size w W' := by
  refine callsIn_of_wp_marks Tryz.func103 rfl trivial ?_ rfl
  simp only [Tryz.ntmps103, List.size_toArray, List.length_cons, List.length_nil, Nat.reduceAdd, Nat.reduceSub, Array.replicate_succ, Array.replicate_zero, List.push_toArray, List.append_toArray, List.nil_append, List.cons_append]
  by_cases hE : chkE t = 0
  · have he1 : (chkE t != 0) = false := by simp [hE]
    have HE := Lib.hid hE
    clear hE
    gi_wp2
    have hs2 : Sl encBand 2 ((w.alloc (.cells #[.int .i64 0] 28)).alloc (.cells #[.int .i64 0] 34)) (w.heap.size + 2) A t := (hs.below (((Below.refl _ w).alloc (Nat.le_refl _) _).alloc (by simp) _)).more (by omega)
    refine ⟨trivial, (callsIn_wide.2 (band_Check t A cap _ hcap (hs2.more (by simp)))).mono ?_⟩
    rintro e w1 ⟨rfl, hb1⟩
    gi_wp2
    refine ⟨trivial, (held_in _ x d A t.length cap _).mono ?_⟩
    rintro e w2 ⟨rfl, rfl⟩
    gi_wp2
    obtain ⟨W2, hW2⟩ : ∃ W2 : World, ((((((w1.alloc (.cells #[.int .i64 (n * 1000000)] 2)).alloc (.cells #[.int .i64 0] 2)).alloc (.cells #[.int .i64 0] 2)).alloc (.cells #[.int .i64 x] 2)).alloc (.cells #[.int .i64 d] 3)).alloc (.cells #[.slice A t.length cap] 49)) = W2 := ⟨_, rfl⟩
    rw [hW2]
    have hz2 : W2.heap.size = w1.heap.size + 6 := by rw [← hW2]; simp
    have hb1z := hb1.size
    simp only [World.size_alloc] at hb1z
    have hb2 : Below w.heap.size w W2 := by
      rw [← hW2]
      exact (((((((((Below.refl _ w).alloc (Nat.le_refl _) _).alloc (by simp) _).trans (hb1.mono (by simp; omega))).alloc (by omega) _).alloc (by simp; omega) _).alloc (by simp; omega) _).alloc (by simp; omega) _).alloc (by simp; omega) _).alloc (by simp; omega) _
    have p8 : Boxed w1 w.heap.size 28 (.int .i64 0) := (hb1.block _ (by simp; omega)).trans ((Boxed.new w 28 (.int .i64 0)).alloc (.cells #[.int .i64 0] 34))
    have p9 : Boxed w1 (w.heap.size + 1) 34 (.int .i64 0) := (hb1.block _ (by simp)).trans (by have := Boxed.new (w.alloc (.cells #[.int .i64 0] 28)) 34 (.int .i64 0); rwa [World.size_alloc] at this)
    have q8 : Boxed W2 w.heap.size 28 (.int .i64 0) := by rw [← hW2]; exact (((((p8.alloc _).alloc _).alloc _).alloc _).alloc _).alloc _
    have q9 : Boxed W2 (w.heap.size + 1) 34 (.int .i64 0) := by rw [← hW2]; exact (((((p9.alloc _).alloc _).alloc _).alloc _).alloc _).alloc _
    have q11 : Boxed W2 w1.heap.size 2 (.int .i64 (n * 1000000)) := by rw [← hW2]; exact (((((Boxed.new w1 _ _).alloc _).alloc _).alloc _).alloc _).alloc _
    have q12 : Boxed W2 (w1.heap.size + 1) 2 (.int .i64 0) := by rw [← hW2]; exact ((((boxed_at (by simp) _ _).alloc _).alloc _).alloc _).alloc _
    have q13 : Boxed W2 (w1.heap.size + 1 + 1) 2 (.int .i64 0) := by rw [← hW2]; exact (((boxed_at (by simp) _ _).alloc _).alloc _).alloc _
    have qx : Boxed W2 (w1.heap.size + 3) 2 (.int .i64 x) := by rw [← hW2]; exact ((boxed_at (by simp) _ _).alloc _).alloc _
    have qd : Boxed W2 (w1.heap.size + 4) 3 (.int .i64 d) := by rw [← hW2]; exact (boxed_at (by simp) _ _).alloc _
    have qt : Boxed W2 (w1.heap.size + 5) 49 (.slice A t.length cap) := by rw [← hW2]; exact boxed_at (by simp) _ _
    have hright : Right t := right_of_chk HE.out
    refine wpIn_rangeFunc_ownG rfl (by omega) (gf := 174) (lb := #[.pointer (some ⟨w1.heap.size + 5, 0, none⟩), .pointer (some ⟨w1.heap.size + 4, 0, none⟩), .pointer (some ⟨w1.heap.size + 3, 0, none⟩)]) rfl trivial (enters_of Tryz.func174 (by kernel_rfl) rfl)
      (held_stops 4 (by omega) (w1.heap.size + 5) (w1.heap.size + 4) (w1.heap.size + 3) w.heap.size cap A t x d hright hx0 hx hd0 (by omega) W2 (by omega) (by omega) (by omega) hb2.size qt.cell qd.cell qx.cell (hs.below hb2))
      KB.trans (fun W l o o' hl ho _ _ => ⟨belowK_b (w := W2) hb2.size W l o o' hl ho ‹_› ‹_›, fun k hk => (grownBy_putObj' W l o').block k (by have h1 := (Array.getElem?_eq_some_iff.1 ho).1; simp at hk; omega) (by simp at hk ⊢; omega)⟩) (Below.refl _ _) (fun _ => rfl)
      (fun pre W => (Boxed W w.heap.size 28 (.int .i64 0) ∧ Boxed W (w.heap.size + 1) 34 (.int .i64 0) ∧ Boxed W w1.heap.size 2 (.int .i64 (n * 1000000)) ∧
        Boxed W (w1.heap.size + 1) 2 (.int .i64 (sumP (pre.map (·.1)) / (n * 1000000))) ∧ Boxed W (w1.heap.size + 1 + 1) 2 (.int .i64 (sumP (pre.map (·.1)) % (n * 1000000))) ∧ 0 ≤ sumP (pre.map (·.1)) ∧ sumP (pre.map (·.1)) / (n * 1000000) ≤ 1125899906842624) ∧ Below w.heap.size w W)
      (fun c pre W => (c = .ret ∧ Boxed W w.heap.size 28 (.int .i64 0) ∧ Boxed W (w.heap.size + 1) 34 (.int .i64 9) ∧ 1125899906842624 < sumP (pre.map (·.1)) / (n * 1000000)) ∧ Below w.heap.size w W)
      (OwnFrom.and (Own.from (fun s X Y row h hg hr => ⟨boxed_own _ _ (fun _ => _) s X Y row h.1 hg hr, boxed_own _ _ (fun _ => _) s X Y row h.2.1 hg hr, boxed_own _ _ (fun _ => _) s X Y row h.2.2.1 hg hr, boxed_own _ _ (fun pre : List Part => Value.int .i64 (sumP (pre.map (·.1)) / (n * 1000000))) s X Y row h.2.2.2.1 hg hr, boxed_own _ _ (fun pre : List Part => Value.int .i64 (sumP (pre.map (·.1)) % (n * 1000000))) s X Y row h.2.2.2.2.1 hg hr, h.2.2.2.2.2⟩) _) (ownFrom_below (Nat.le_refl _) hb2.size))
      (fun c => OwnFrom.and (Own.from (fun s X Y row h hg hr => ⟨h.1, boxed_own _ _ (fun _ => _) s X Y row h.2.1 hg hr, boxed_own _ _ (fun _ => _) s X Y row h.2.2.1 hg hr, h.2.2.2⟩) _) (ownFrom_below (Nat.le_refl _) hb2.size))
      ⟨⟨q8, q9, q11, by simpa [sumP] using q12, by simpa [sumP] using q13, by simp [sumP], by simp [sumP]⟩, hb2⟩ (fun p => { tmps := #[.int .i64 x, .int .i64 d, .int .i64 n, .slice A t.length cap, undef, undef, undef, undef, .pointer (some ⟨w.heap.size, 0, none⟩), .pointer (some ⟨w.heap.size + 1, 0, none⟩), .int .i64 (chkE t), .pointer (some ⟨w1.heap.size, 0, none⟩), .pointer (some ⟨w1.heap.size + 1, 0, none⟩), .pointer (some ⟨w1.heap.size + 1 + 1, 0, none⟩), .int .i64 p.1.1, .int .i64 p.1.2, .slice A t.length cap, .int .i64 (chkE t), .int .i64 (chkE t), .bool false, undef, .int .i64 d, .bool (decide (d < 1)), .bool (decide (d < 1)), .int .i64 d, .int .i64 n, .bool (decide (n < d)), .bool (decide (d < 1) || decide (n < d)), .bool (decide (d < 1) || decide (n < d)), .int .i64 n, .bool (decide (400 < n)), .bool (decide (d < 1) || decide (n < d) || decide (400 < n)), .int .i64 n, .int .i64 (n * 1000000), .int .i64 x, .int .i64 d, .slice A t.length cap, .func (.func 174) #[] #[.pointer (some ⟨w1.heap.size + 1 + 1 + 1 + 2, 0, none⟩), .pointer (some ⟨w1.heap.size + 1 + 1 + 1 + 1, 0, none⟩), .pointer (some ⟨w1.heap.size + 1 + 1 + 1, 0, none⟩)], .int .i64 p.1.1, .int .i64 p.1.2, undef, undef, undef, undef, undef, undef, undef, undef, undef, undef, undef, undef, undef, undef, undef, undef, undef, undef, undef, undef, undef, undef, undef, undef, undef, undef, undef, undef, undef, undef, undef, undef, undef, undef], defers := [] }) ?assign ?body ?done ?stop
    case assign =>
      intro l p W K hK
      gi_wp2
      exact hK
    case body =>
      rintro l pre p W ⟨⟨q8, q9, q11, q12, q13, hS0, hS1⟩, hB⟩ _
      have c8 := q8.cell
      have f8 := q8.frozen
      have c9 := q9.cell
      have f9 := q9.frozen
      have c11 := q11.cell
      have c12 := q12.cell
      have f12 := q12.frozen
      have c13 : W.cell? ⟨w1.heap.size + 1 + 1, 0, none⟩ = some _ := q13.cell
      have f13 : W.frozen? ⟨w1.heap.size + 1 + 1, 0, none⟩ = false := q13.frozen
      have hmx : Tryz.prog.follows .mixedOrders = true := by kernel_rfl
      have st0 : St (w1.heap.size + 6) w.heap.size w1.heap.size w W W _ _ _ _ _ _ _ _ _ := ⟨hb1z, KeepsFrom.refl _ _, KB.refl _ _ _, q8, q9, q11, q12, q13, hB⟩
      obtain ⟨hr0, hr1, hm0, hm1⟩ := p.2
      have HSS := Lib.hid (show sumP ((pre ++ [p]).map (·.1)) = sumP (pre.map (·.1)) + p.1.1 * p.1.2 by rw [List.map_append, sumP_append]; simp [sumP])
      generalize sumP (pre.map (·.1)) = S at *
      generalize p.1.1 = r at *
      generalize p.1.2 = m at *
      have hden0 : 1000000 ≤ n * 1000000 := by omega
      have hden1 : n * 1000000 ≤ 400000000 := by omega
      generalize n * 1000000 = den at *
      have hA := step_nums S den r m hS0 hr0 hr1 hm0 hm1 hden0 hden1
      obtain ⟨a1, a2, a3, a4, a5, a6, a7, a8⟩ := hA
      have HE1 := Lib.hid a7
      have HE2 := Lib.hid a8
      clear a7 a8
      have hdz : ¬ den = 0 := by omega
      have d1 : IntKind.i64.wrap (m.tdiv den) = m / den := by rw [Int.tdiv_eq_ediv_of_nonneg (by omega)]; exact IntWalk.i64_in _ (by have := Int.ediv_nonneg (show 0 ≤ m by omega) (show 0 ≤ den by omega); have := Int.ediv_le_self den (show 0 ≤ m by omega); omega)
      have d2 : m.tmod den = m % den := Int.tmod_eq_emod_of_nonneg (by omega)
      generalize hu : m / den * r = u at *
      generalize hv : m % den * r = v at *
      have d3 : IntKind.i64.wrap (m / den * r) = u := by rw [hu]; exact IntWalk.i64_in _ (by omega)
      have d4 : IntKind.i64.wrap (m % den * r) = v := by rw [hv]; exact IntWalk.i64_in _ (by omega)
      generalize hp : S / den = p0 at *
      generalize hq : S % den = q0 at *
      have d5 : IntKind.i64.wrap (p0 + u) = p0 + u := IntWalk.i64_in _ (by omega)
      have d6 : IntKind.i64.wrap (q0 + v) = q0 + v := IntWalk.i64_in _ (by omega)
      have l0 : 0 ≤ q0 + v := by omega
      have l1 : q0 + v ≤ 400000400000000 := by omega
      have l2 := Int.ediv_nonneg l0 (show 0 ≤ den by omega)
      have l3 := Int.ediv_le_self den l0
      have d7 : IntKind.i64.wrap ((q0 + v).tdiv den) = (q0 + v) / den := by rw [Int.tdiv_eq_ediv_of_nonneg l0]; exact IntWalk.i64_in _ (by omega)
      have d8 : (q0 + v).tmod den = (q0 + v) % den := Int.tmod_eq_emod_of_nonneg l0
      have d9 : IntKind.i64.wrap (p0 + u + (q0 + v) / den) = p0 + u + (q0 + v) / den := IntWalk.i64_in _ (by omega)
      have HU := Lib.hid hu
      have HV := Lib.hid hv
      have HP := Lib.hid hp
      have HQ := Lib.hid hq
      clear hu hv hp hq
      gi_wp2
      refine wpIn_region_still_tail 7 hmx (by kernel_rfl) (by kernel_rfl) ?_
      simp only [List.take_succ_cons, List.take_zero, List.drop_succ_cons, List.drop_zero]
      repeat still_step
      refine wpStill_nil ?_
      gi_wp2
      refine wpIn_region_still_tail 7 hmx (by kernel_rfl) (by kernel_rfl) ?_
      simp only [List.take_succ_cons, List.take_zero, List.drop_succ_cons, List.drop_zero]
      repeat still_step
      refine wpStill_nil ?_
      gi_wp2
      refine wpIn_region_calm (fun w' => w'.cell? ⟨w1.heap.size, 0, none⟩ = some (.int .i64 den) ∧ w'.cell? ⟨w1.heap.size + 1 + 1, 0, none⟩ = some (.int .i64 (q0 + v))) 9 hmx (by kernel_rfl) ?_ (fun hHeld => ?_)
      · constructor <;> go_simp
      refine wpAnyG_take (i := 1) (v := .int .i64 (q0 + v)) rfl (by kernel_rfl) (by kernel_rfl) (by kernel_rfl) (by kernel_rfl) (fun _ _ _ h => absurd h.1 (by simp)) (Or.inl ⟨by rfl, ?_⟩) (by assumption) ?_
      · (intro w hSw; obtain ⟨hSw1, hSw2⟩ := hSw; go_simp)
      refine wpAnyG_take (i := 2) (v := .int .i64 (den)) rfl (by kernel_rfl) (by kernel_rfl) (by kernel_rfl) (by kernel_rfl) (fun _ _ _ h => absurd h.1 (by simp)) (Or.inl ⟨by rfl, ?_⟩) (by assumption) ?_
      · (intro w hSw; obtain ⟨hSw1, hSw2⟩ := hSw; go_simp)
      refine wpAnyG_take (i := 5) (v := .int .i64 (q0 + v)) rfl (by kernel_rfl) (by kernel_rfl) (by kernel_rfl) (by kernel_rfl) (fun _ _ _ h => absurd h.1 (by simp)) (Or.inl ⟨by rfl, ?_⟩) (by assumption) ?_
      · (intro w hSw; obtain ⟨hSw1, hSw2⟩ := hSw; go_simp)
      refine wpAnyG_take (i := 6) (v := .int .i64 (den)) rfl (by kernel_rfl) (by kernel_rfl) (by kernel_rfl) (by kernel_rfl) (fun _ _ _ h => absurd h.1 (by simp)) (Or.inl ⟨by rfl, ?_⟩) (by assumption) ?_
      · (intro w hSw; obtain ⟨hSw1, hSw2⟩ := hSw; go_simp)
      refine wpAnyG_take (i := 3) (v := .int .i64 ((q0 + v) / den)) rfl (by kernel_rfl) (by kernel_rfl) (by kernel_rfl) (by kernel_rfl) (fun _ _ _ h => absurd h.1 (by simp)) (Or.inl ⟨by rfl, ?_⟩) (by assumption) ?_
      · (intro w hSw; obtain ⟨hSw1, hSw2⟩ := hSw; go_simp)
      refine wpAnyG_take (i := 7) (v := .int .i64 ((q0 + v) % den)) rfl (by kernel_rfl) (by kernel_rfl) (by kernel_rfl) (by kernel_rfl) (fun _ _ _ h => absurd h.1 (by simp)) (Or.inl ⟨by rfl, ?_⟩) (by assumption) ?_
      · (intro w hSw; obtain ⟨hSw1, hSw2⟩ := hSw; go_simp)
      refine wpAnyG_one (i := 0) (by kernel_rfl) rfl (fun K hK => ?_)
      go_simp
      refine hK.out _ _ (fun hne => ?_) (fun hHeld => ?_)
      · exact hHeld
      clear hK
      replace hHeld := hHeld.resolve_right (by decide)
      refine wpAnyG_take (i := 4) (v := .int .i64 (p0 + u + (q0 + v) / den)) rfl (by kernel_rfl) (by kernel_rfl) (by kernel_rfl) (by kernel_rfl) (fun _ _ _ h => absurd h.1 (by simp)) (Or.inl ⟨by rfl, ?_⟩) (by assumption) ?_
      · (intro w hSw; obtain ⟨hSw1, hSw2⟩ := hSw; go_simp)
      refine wpAnyG_one (i := 8) (by kernel_rfl) rfl (fun K hK => ?_)
      go_simp
      refine hK.out _ _ (fun hne => ?_) (fun hHeld => ?_)
      · constructor <;> go_simp
      clear hK
      replace hHeld := hHeld.resolve_right (by decide)
      refine wpAnyG_one (i := 9) (by kernel_rfl) rfl (fun K hK => ?_)
      go_simp
      refine hK.out _ _ (fun hne => ?_) (fun hHeld => ?_)
      · exact absurd rfl hne
      clear hK
      refine wpAnyG_done (by kernel_rfl) ⟨rfl, ?_⟩ _
      gi_wp2
      · have h1 := ((((((((st0.set12 (.int .i64 (p0 + u))).set13 (.int .i64 (q0 + v))).set12 (.int .i64 (p0 + u + (q0 + v) / den))).set13 (.int .i64 ((q0 + v) % den))).set8 (.int .i64 0)).set9 (.int .i64 9)).drew).drew).drew
        exact ⟨h1.keeps, ⟨rfl, h1.q8, h1.q9, by rw [HSS.out, HE1.out]; assumption⟩, h1.bel⟩
      · have h1 := ((((((st0.set12 (.int .i64 (p0 + u))).set13 (.int .i64 (q0 + v))).set12 (.int .i64 (p0 + u + (q0 + v) / den))).set13 (.int .i64 ((q0 + v) % den))).drew).drew).drew
        refine ⟨h1.keeps, h1.kb, ⟨h1.q8, h1.q9, h1.q11, ?_, ?_, ?_, ?_⟩, h1.bel⟩
        · rw [HSS.out, HE1.out]
          exact h1.q12
        · rw [HSS.out, HE2.out]
          exact h1.q13
        · rw [HSS.out]
          have := Int.mul_nonneg hr0 (show 0 ≤ m by omega)
          omega
        · rw [HSS.out, HE1.out]
          assumption
    case done =>
      rintro D ys W hD hys ⟨⟨q8, q9, q11, q12, q13, hS0, hS1⟩, hB⟩ hK
      have c8 := q8.cell
      have f8 := q8.frozen
      have c9 := q9.cell
      have f9 := q9.frozen
      have c11 := q11.cell
      have c12 := q12.cell
      have f12 := q12.frozen
      have c13 : W.cell? ⟨w1.heap.size + 1 + 1, 0, none⟩ = some _ := q13.cell
      rw [hys] at c12 c13 hS0 hS1
      have hden0 : 1000000 ≤ n * 1000000 := by omega
      have hden1 : n * 1000000 ≤ 400000000 := by omega
      have hfin : scaledV (tot x d t t.length) n = if 1125899906842624 < sumP (ylds x d t t.length) / (n * 1000000) + (if (n * 1000000) - sumP (ylds x d t t.length) % (n * 1000000) ≤ sumP (ylds x d t t.length) % (n * 1000000) then 1 else 0) then (0, 9) else (sumP (ylds x d t t.length) / (n * 1000000) + (if (n * 1000000) - sumP (ylds x d t t.length) % (n * 1000000) ≤ sumP (ylds x d t t.length) % (n * 1000000) then 1 else 0), 0) := rfl
      have HF := Lib.hid hfin
      clear hfin hys
      generalize sumP (ylds x d t t.length) = S at *
      generalize n * 1000000 = den at *
      have b3 := Int.emod_nonneg S (show den ≠ 0 by omega)
      have b4 := Int.emod_lt_of_pos S (show 0 < den by omega)
      have b5 := Int.ediv_nonneg hS0 (show 0 ≤ den by omega)
      have st0 : St (w1.heap.size + 6) w.heap.size w1.heap.size w W W _ _ _ _ _ _ _ _ _ := ⟨hb1z, KeepsFrom.refl _ _, KB.refl _ _ _, q8, q9, q11, q12, q13, hB⟩
      generalize S / den = p0 at *
      generalize S % den = q0 at *
      rw [hz2] at hD
      have fin : ∀ (r1 r2 : Int) (W' : World) (v3 v4 v5 : Value), St (w1.heap.size + 6) w.heap.size w1.heap.size w W W' 28 34 2 2 (.int .i64 r1) (.int .i64 r2) v3 v4 v5 →
          W'.heap[D]? = some (.deferred (some [])) ∧ (W'.putObj D (.deferred none)).cell? ⟨w.heap.size, 0, none⟩ = some (.int .i64 r1) ∧ (W'.putObj D (.deferred none)).cell? ⟨w.heap.size + 1, 0, none⟩ = some (.int .i64 r2) ∧ Below w.heap.size w (W'.putObj D (.deferred none)) := by
        intro r1 r2 W' v3 v4 v5 h
        have hK' := h.keeps.same D _ hD hK rfl
        exact ⟨hK', (h.q8.kept (grownBy_putObj' _ D (.deferred none)) (by simp; omega)).cell, (h.q9.kept (grownBy_putObj' _ D (.deferred none)) (by simp; omega)).cell, h.bel.trans (belowK_b (w := w) (Nat.le_refl _) _ D _ _ (by omega) hK' rfl rfl)⟩
      have FIN := Lib.hid fin
      have ST := Lib.hid st0
      clear fin st0
      gi_wp2
      · have h1 := FIN.out _ _ _ _ _ _ (((ST.out.set12 (.int .i64 (p0 + 1))).set8 (.int .i64 0)).set9 (.int .i64 9))
        refine ⟨by simp, .inl ⟨_, _, rfl, run_takeDeferred h1.1, ?_⟩⟩
        refine ⟨.tuple #[.int .i64 0, .int .i64 9], by simp [results, Tryz.f103, go_sem, h1.2.1, h1.2.2.1], ?_, h1.2.2.2⟩
        have e1 : den - q0 ≤ q0 := by assumption
        exact pair_ret (by rw [HF.out, if_pos e1, if_pos (by omega)])
      · have h1 := FIN.out _ _ _ _ _ _ (((ST.out.set12 (.int .i64 (p0 + 1))).set8 (.int .i64 (p0 + 1))).set9 (.int .i64 0))
        refine ⟨by simp, .inl ⟨_, _, rfl, run_takeDeferred h1.1, ?_⟩⟩
        refine ⟨.tuple #[.int .i64 (p0 + 1), .int .i64 0], by simp [results, Tryz.f103, go_sem, h1.2.1, h1.2.2.1], ?_, h1.2.2.2⟩
        have e1 : den - q0 ≤ q0 := by assumption
        exact pair_ret (by rw [HF.out, if_pos e1, if_neg (by omega)])
      · have h1 := FIN.out _ _ _ _ _ _ ((ST.out.set8 (.int .i64 p0)).set9 (.int .i64 0))
        refine ⟨by simp, .inl ⟨_, _, rfl, run_takeDeferred h1.1, ?_⟩⟩
        refine ⟨.tuple #[.int .i64 p0, .int .i64 0], by simp [results, Tryz.f103, go_sem, h1.2.1, h1.2.2.1], ?_, h1.2.2.2⟩
        have e1 : ¬ den - q0 ≤ q0 := by omega
        exact pair_ret (by rw [HF.out, if_neg e1, Int.add_zero, if_neg (by omega)])
    case stop =>
      rintro D c pre W hD ⟨k, hk, hpre⟩ ⟨⟨rfl, q8, q9, hlt⟩, hB⟩ hK
      have HLT : Hid (scaledV (tot x d t t.length) n = (0, 9)) := by
        rw [hpre] at hlt
        have h1 : sumP (ylds x d t k) ≤ tot x d t t.length := by
          have := tot_up (x := x) (d := d) hright (t.length - k) k (by omega)
          rwa [show k + (t.length - k) = t.length by omega] at this
        have h2 := Int.ediv_le_ediv (show 0 < n * 1000000 by omega) h1
        have h3 := half_ge (T := tot x d t t.length) (den := n * 1000000)
        show scaledV _ _ = _
        unfold scaledV
        rw [if_pos (by omega)]
      rw [hz2] at hD
      gi_wp2
      refine ⟨by simp, .inl ⟨_, _, rfl, run_takeDeferred hK, ?_⟩⟩
      have c8 := (q8.kept (grownBy_putObj' _ D (.deferred none)) (by simp; omega)).cell
      have c9 := (q9.kept (grownBy_putObj' _ D (.deferred none)) (by simp; omega)).cell
      refine ⟨.tuple #[.int .i64 0, .int .i64 9], by simp [results, Tryz.f103, go_sem, c8, c9], ?_, hB.trans (belowK_b (w := w) (Nat.le_refl _) _ D _ _ (by omega) hK rfl rfl)⟩
      exact pair_ret HLT.out
  · have he1 : (chkE t != 0) = true := by simp [hE]
    have HE := Lib.hid hE
    clear hE
    gi_wp2
    have hs2 : Sl encBand 2 ((w.alloc (.cells #[.int .i64 0] 28)).alloc (.cells #[.int .i64 0] 34)) (w.heap.size + 2) A t := (hs.below (((Below.refl _ w).alloc (Nat.le_refl _) _).alloc (by simp) _)).more (by omega)
    refine ⟨trivial, (callsIn_wide.2 (band_Check t A cap _ hcap (hs2.more (by simp)))).mono ?_⟩
    rintro e w1 ⟨rfl, hb1⟩
    have p8 : Boxed w1 w.heap.size 28 (.int .i64 0) := (hb1.block _ (by simp; omega)).trans ((Boxed.new w 28 (.int .i64 0)).alloc (.cells #[.int .i64 0] 34))
    have p9 : Boxed w1 (w.heap.size + 1) 34 (.int .i64 0) := (hb1.block _ (by simp)).trans (by have := Boxed.new (w.alloc (.cells #[.int .i64 0] 28)) 34 (.int .i64 0); rwa [World.size_alloc] at this)
    have c8 := p8.cell
    have f8 := p8.frozen
    have c9 := p9.cell
    have f9 := p9.frozen
    gi_wp2
    have b8 := (p8.set (.int .i64 0)).other (B' := w.heap.size + 1) (by omega) (.int .i64 (chkE t))
    have b9 := (p9.other (B' := w.heap.size) (by omega) (.int .i64 0)).set (.int .i64 (chkE t))
    refine ⟨.tuple #[.int .i64 0, .int .i64 (chkE t)], by simp [results, Tryz.f103, go_sem, b8.cell, b9.cell], rfl, ?_⟩
    exact (((((Below.refl _ w).alloc (Nat.le_refl _) _).alloc (by simp) _).trans (hb1.mono (by simp; omega))).setCell (p := ⟨w.heap.size, 0, none⟩) (Nat.le_refl _) _).setCell (p := ⟨w.heap.size + 1, 0, none⟩) (by dsimp; omega) _
end Go.Proofs.YtgepbkldgnjpfaaGreatDoor.Tx

namespace Go.Proofs.YtgepbkldgnjpfaaGreatDoor.Tx
open Go.RowKit

theorem pair_ret2 {v u : Int × Int} (h : v = u) : Ending.returned (.tuple #[.int .i64 u.1, .int .i64 u.2]) = .returned (.tuple #[.int .i64 v.1, .int .i64 v.2]) := by rw [h]
def scaledE (x d n : Int) (t : List (Int × Int)) : Int × Int := if chkE t ≠ 0 then (0, chkE t) else scaledV (tot x d t t.length) n
theorem band_Scaled (x d n : Int) (A : Option Addr) (cap : Nat) (t : List (Int × Int)) (w : World) (hcap : t.length ≤ 9223372036854775807) (hx0 : 0 ≤ x) (hx : x ≤ 450359962737049600) (hd0 : 1 ≤ d) (hd : d ≤ n) (hn : n ≤ 400)
    (hs : Sl encBand 2 w w.heap.size A t) :
    Calls Tryz.prog 103 #[.int .i64 x, .int .i64 d, .int .i64 n, .slice A t.length cap] w fun e W' =>
      e = .returned (.tuple #[.int .i64 (scaledE x d n t).1, .int .i64 (scaledE x d n t).2]) ∧ Below w.heap.size w W' :=
  callsIn_wide.1 (band_Scaled_in x d n A cap t w hcap hx0 hx hd0 hd hn hs)

/-- The tax to date, or what is wrong. -/
def toDateV (base index of al ex : Int) (t : List (Int × Int)) : Int × Int :=
  if index < 1 ∨ of < index ∨ 400 < of then (0, 2)
  else if fitsB base = false then (0, 2)
  else if amountB al = false then (0, 2)
  else if amountB ex = false then (0, 2)
  else scaledE (max 0 (base * of - al * index)) index of t

theorem card_bd {base of al index : Int} (hb : fitsB base = true) (ha : amountB al = true) (h1 : 1 ≤ index) (h2 : index ≤ of) (h3 : of ≤ 400) :
    -450359962737049600 ≤ base * of ∧ base * of ≤ 450359962737049600 ∧ 0 ≤ al * index ∧ al * index ≤ 450359962737049600 := by
  unfold fitsB at hb
  unfold amountB at ha
  simp at hb ha
  have e1 : base * of ≤ 1125899906842624 * 400 := by
    have := Int.mul_le_mul_of_nonneg_right hb.2 (show 0 ≤ of by omega)
    omega
  have e2 : -1125899906842624 * 400 ≤ base * of := by
    have := Int.mul_le_mul_of_nonneg_right hb.1 (show 0 ≤ of by omega)
    omega
  have e3 := Int.mul_nonneg ha.1 (show 0 ≤ index by omega)
  have e4 : al * index ≤ 1125899906842624 * 400 := Int.mul_le_mul ha.2 (by omega) (by omega) (by omega)
  omega

abbrev cardV (al ex : Int) (A : Option Addr) (n cap : Nat) : Value := .agg #[.int .i64 al, .int .i64 ex, .slice A n cap]

set_option maxRecDepth 100000 in
set_option maxHeartbeats 1000000 in
theorem tax_ToDate (base index of al ex : Int) (A : Option Addr) (cap : Nat) (t : List (Int × Int)) (w : World) (hcap : t.length ≤ 9223372036854775807) (hs : Sl encBand 2 w w.heap.size A t) :
    Calls Tryz.prog 81 #[.int .i64 base, .int .i64 index, .int .i64 of, cardV al ex A t.length cap] w fun e W' =>
      e = .returned (.tuple #[.int .i64 (toDateV base index of al ex t).1, .int .i64 (toDateV base index of al ex t).2]) ∧ Below w.heap.size w W' := by
  unfold cardV
  by_cases h1 : index < 1 ∨ of < index ∨ 400 < of
  · have HF : Hid (toDateV base index of al ex t = (0, 2)) := by show _ = _; unfold toDateV; rw [if_pos h1]
    by_cases i1 : index < 1
    · go_enter Tryz.func81, Tryz.ntmps81
      go_wp2_with fail
      go_ret2
      exact ⟨pair_ret HF.out, (Below.refl _ _).alloc (Nat.le_refl _) _⟩
    · by_cases i2 : of < index
      · go_enter Tryz.func81, Tryz.ntmps81
        go_wp2_with fail
        go_ret2
        exact ⟨pair_ret HF.out, (Below.refl _ _).alloc (Nat.le_refl _) _⟩
      · have i3 : 400 < of := by omega
        go_enter Tryz.func81, Tryz.ntmps81
        go_wp2_with fail
        go_ret2
        exact ⟨pair_ret HF.out, (Below.refl _ _).alloc (Nat.le_refl _) _⟩
  · by_cases hf : fitsB base = true
    · by_cases ha : amountB al = true
      · by_cases he : amountB ex = true
        · have hbd := card_bd hf ha (show 1 ≤ index by omega) (show index ≤ of by omega) (show of ≤ 400 by omega)
          have HF : Hid (toDateV base index of al ex t = scaledE (max 0 (base * of - al * index)) index of t) := by
            show _ = _
            unfold toDateV
            rw [if_neg h1, if_neg (by simp [hf]), if_neg (by simp [ha]), if_neg (by simp [he])]
          obtain ⟨b1, b2, b3, b4⟩ := hbd
          generalize hbo : base * of = bo at *
          generalize hai : al * index = ai at *
          have g1 : IntKind.i64.wrap (base * of) = bo := by rw [hbo]; exact IntWalk.i64_in _ (by omega)
          have g2 : IntKind.i64.wrap (al * index) = ai := by rw [hai]; exact IntWalk.i64_in _ (by omega)
          clear hbo hai
          obtain ⟨i1, i2, i3⟩ : 1 ≤ index ∧ index ≤ of ∧ of ≤ 400 := by omega
          clear h1
          go_enter Tryz.func81, Tryz.ntmps81
          go_wp2_with (first | (go_at_call 102; refine (tax_amount _ _).mono ?_; rintro e w' ⟨rfl, rfl⟩) | (go_at_call 80; refine (tax_fits _ _).mono ?_; rintro e w' ⟨rfl, rfl⟩))
          all_goals
            refine (band_Scaled _ index of A cap t _ hcap (by omega) (by omega) i1 i2 i3 ((hs.below ((Below.refl _ w).alloc (Nat.le_refl _) _)).more (by simp))).mono ?_
            rintro e w' ⟨rfl, hb⟩
            go_wp2_with fail
            go_ret2
            exact ⟨pair_ret2 (by rw [HF.out]; exact congrArg (fun z => scaledE z index of t) (by omega)), ((Below.refl _ w).alloc (Nat.le_refl _) _).trans (hb.mono (by simp))⟩
        · have he' : amountB ex = false := by simpa using he
          have HF : Hid (toDateV base index of al ex t = (0, 2)) := by
            show _ = _
            unfold toDateV
            rw [if_neg h1, if_neg (by simp [hf]), if_neg (by simp [ha]), if_pos he']
          clear he
          obtain ⟨i1, i2, i3⟩ : 1 ≤ index ∧ index ≤ of ∧ of ≤ 400 := by omega
          clear h1
          go_enter Tryz.func81, Tryz.ntmps81
          go_wp2_with (first | (go_at_call 102; refine (tax_amount _ _).mono ?_; rintro e w' ⟨rfl, rfl⟩) | (go_at_call 80; refine (tax_fits _ _).mono ?_; rintro e w' ⟨rfl, rfl⟩))
          go_ret2
          exact ⟨pair_ret HF.out, (Below.refl _ _).alloc (Nat.le_refl _) _⟩
      · have ha' : amountB al = false := by simpa using ha
        have HF : Hid (toDateV base index of al ex t = (0, 2)) := by
          show _ = _
          unfold toDateV
          rw [if_neg h1, if_neg (by simp [hf]), if_pos ha']
        clear ha
        obtain ⟨i1, i2, i3⟩ : 1 ≤ index ∧ index ≤ of ∧ of ≤ 400 := by omega
        clear h1
        go_enter Tryz.func81, Tryz.ntmps81
        go_wp2_with (first | (go_at_call 102; refine (tax_amount _ _).mono ?_; rintro e w' ⟨rfl, rfl⟩) | (go_at_call 80; refine (tax_fits _ _).mono ?_; rintro e w' ⟨rfl, rfl⟩))
        go_ret2
        exact ⟨pair_ret HF.out, (Below.refl _ _).alloc (Nat.le_refl _) _⟩
    · have hf' : fitsB base = false := by simpa using hf
      have HF : Hid (toDateV base index of al ex t = (0, 2)) := by
        show _ = _
        unfold toDateV
        rw [if_neg h1, if_pos hf']
      clear hf
      obtain ⟨i1, i2, i3⟩ : 1 ≤ index ∧ index ≤ of ∧ of ≤ 400 := by omega
      clear h1
      go_enter Tryz.func81, Tryz.ntmps81
      go_wp2_with (first | (go_at_call 102; refine (tax_amount _ _).mono ?_; rintro e w' ⟨rfl, rfl⟩) | (go_at_call 80; refine (tax_fits _ _).mono ?_; rintro e w' ⟨rfl, rfl⟩))
      go_ret2
      exact ⟨pair_ret HF.out, (Below.refl _ _).alloc (Nat.le_refl _) _⟩
end Go.Proofs.YtgepbkldgnjpfaaGreatDoor.Tx

namespace Go.Proofs.YtgepbkldgnjpfaaGreatDoor.Tx
open Go.RowKit

end Go.Proofs.YtgepbkldgnjpfaaGreatDoor.Tx

namespace Go.Proofs.YtgepbkldgnjpfaaGreatDoor.Tx
open Go.RowKit

theorem toDateV_ok {base index of al ex : Int} {t : List (Int × Int)} (h : (toDateV base index of al ex t).2 = 0) :
    (1 ≤ index ∧ index ≤ of ∧ of ≤ 400) ∧ fitsB base = true ∧ amountB al = true ∧ amountB ex = true ∧ chkE t = 0 ∧ toDateV base index of al ex t = scaledV (tot (max 0 (base * of - al * index)) index t t.length) of := by
  unfold toDateV at h ⊢
  by_cases h1 : index < 1 ∨ of < index ∨ 400 < of
  · rw [if_pos h1] at h; cases h
  rw [if_neg h1] at h ⊢
  by_cases h2 : fitsB base = false
  · rw [if_pos h2] at h; cases h
  rw [if_neg h2] at h ⊢
  by_cases h3 : amountB al = false
  · rw [if_pos h3] at h; cases h
  rw [if_neg h3] at h ⊢
  by_cases h4 : amountB ex = false
  · rw [if_pos h4] at h; cases h
  rw [if_neg h4] at h ⊢
  unfold scaledE at h ⊢
  by_cases h5 : chkE t = 0
  · rw [if_neg (by simp [h5])]
    exact ⟨by omega, by simpa using h2, by simpa using h3, by simpa using h4, h5, rfl⟩
  · rw [if_pos h5] at h; exact absurd h h5
theorem toDateV_bad {base index of al ex : Int} {t : List (Int × Int)} (h : (toDateV base index of al ex t).2 ≠ 0) : (toDateV base index of al ex t).1 = 0 := by
  unfold toDateV at h ⊢
  split
  · rfl
  split
  · rfl
  split
  · rfl
  split
  · rfl
  rename_i h1 h2 h3 h4
  rw [if_neg h1, if_neg h2, if_neg h3, if_neg h4] at h
  unfold scaledE at h ⊢
  split
  · rfl
  rename_i h5
  rw [if_neg h5] at h
  unfold scaledV at h ⊢
  split
  · rfl
  rename_i h6
  rw [if_neg h6] at h
  exact absurd rfl h
theorem scaledV_bd {T of : Int} (hT : 0 ≤ T) (hof : 1 ≤ of) : 0 ≤ (scaledV T of).1 ∧ (scaledV T of).1 ≤ 1125899906842624 := by
  unfold scaledV
  split
  · exact ⟨by omega, by omega⟩
  · rename_i h
    refine ⟨?_, by omega⟩
    have := Int.ediv_nonneg hT (show 0 ≤ of * 1000000 by omega)
    unfold half
    dsimp only
    split <;> omega
theorem toDateV_bd {base index of al ex : Int} {t : List (Int × Int)} : 0 ≤ (toDateV base index of al ex t).1 ∧ (toDateV base index of al ex t).1 ≤ 1125899906842624 := by
  by_cases h : (toDateV base index of al ex t).2 = 0
  · obtain ⟨h1, _, _, _, h5, h6⟩ := toDateV_ok h
    rw [h6]
    exact scaledV_bd (tot_nonneg (right_of_chk h5) _ (Nat.le_refl _)) (by omega)
  · rw [toDateV_bad h]; omega
end Go.Proofs.YtgepbkldgnjpfaaGreatDoor.Tx

namespace Go.Proofs.YtgepbkldgnjpfaaGreatDoor.Tx
open Go.RowKit

/-- The sums with a period's base, what is withheld, and what is wrong. -/
def stepV (b t x index of al ex : Int) (T : List (Int × Int)) : (Int × Int) × (Int × Int) :=
  if fitsB b = false ∨ fitsB t = false ∨ fitsB x = false then ((b, t), (0, 2))
  else if fitsB (b + x) = false then ((b, t), (0, 9))
  else if (toDateV (b + x) index of al ex T).2 ≠ 0 then ((b, t), (0, (toDateV (b + x) index of al ex T).2))
  else if fitsB ((toDateV (b + x) index of al ex T).1 - t + ex) = false then ((b, t), (0, 9))
  else ((b + x, (toDateV (b + x) index of al ex T).1), ((toDateV (b + x) index of al ex T).1 - t + ex, 0))

theorem cell2 {w1 : World} {z : Nat} {a b : Value} (h0 : w1.cell? ⟨z, 0, none⟩ = some a) (h1 : w1.cell? ⟨z, 1, none⟩ = some b) (v u : Value) :
    ((w1.setCell ⟨z, 0, none⟩ v).setCell ⟨z, 1, none⟩ u).cell? ⟨z, 0, none⟩ = some v ∧ ((w1.setCell ⟨z, 0, none⟩ v).setCell ⟨z, 1, none⟩ u).cell? ⟨z, 1, none⟩ = some u := by
  refine ⟨?_, ?_⟩
  · rw [World.cell?_setCell_other _ _ _ _ (by simp)]; exact World.cell?_setCell_same _ _ _ h0
  · exact World.cell?_setCell_same _ _ _ ((World.cell?_setCell_other _ _ _ _ (by simp)).trans h1)
theorem cell2a {w1 : World} {z : Nat} {a b : Value} (h0 : w1.cell? ⟨z, 0, none⟩ = some a) (h1 : w1.cell? ⟨z, 1, none⟩ = some b) (v u : Value) (o : Obj) :
    (((w1.setCell ⟨z, 0, none⟩ v).setCell ⟨z, 1, none⟩ u).alloc o).cell? ⟨z, 0, none⟩ = some v ∧ (((w1.setCell ⟨z, 0, none⟩ v).setCell ⟨z, 1, none⟩ u).alloc o).cell? ⟨z, 1, none⟩ = some u := by
  have hz : z < ((w1.setCell ⟨z, 0, none⟩ v).setCell ⟨z, 1, none⟩ u).heap.size := by
    have := World.block_lt_of_cell? w1 ⟨z, 0, none⟩ h0
    simpa [World.setCell] using this
  obtain ⟨c0, c1⟩ := cell2 h0 h1 v u
  exact ⟨(World.cell?_alloc_lt _ _ _ hz).trans c0, (World.cell?_alloc_lt _ _ _ hz).trans c1⟩

theorem fits_bd {c : Int} (h : fitsB c = true) : -1125899906842624 ≤ c ∧ c ≤ 1125899906842624 := by unfold fitsB at h; simpa using h
theorem step_ret {v : (Int × Int) × (Int × Int)} {a b c d : Int} (h : v = ((a, b), (c, d))) :
    Ending.returned (.tuple #[.agg #[.int .i64 a, .int .i64 b], .int .i64 c, .int .i64 d]) = .returned (.tuple #[.agg #[.int .i64 v.1.1, .int .i64 v.1.2], .int .i64 v.2.1, .int .i64 v.2.2]) := by rw [h]
set_option maxRecDepth 100000 in
set_option maxHeartbeats 2000000 in
theorem tax_Step (b t x index of al ex : Int) (A : Option Addr) (cap : Nat) (T : List (Int × Int)) (w : World) (hcap : T.length ≤ 9223372036854775807) (hs : Sl encBand 2 w w.heap.size A T) :
    Calls Tryz.prog 40 #[.agg #[.int .i64 b, .int .i64 t], .int .i64 x, .int .i64 index, .int .i64 of, cardV al ex A T.length cap] w fun e W' =>
      e = .returned (.tuple #[.agg #[.int .i64 (stepV b t x index of al ex T).1.1, .int .i64 (stepV b t x index of al ex T).1.2], .int .i64 (stepV b t x index of al ex T).2.1, .int .i64 (stepV b t x index of al ex T).2.2]) ∧ Below w.heap.size w W' := by
  have bel0 : Below w.heap.size w (((w.alloc (.cells #[.int .i64 b, .int .i64 t] 30)).alloc (.cells #[.int .i64 al, .int .i64 ex, .slice A T.length cap] 51)).alloc (.cells #[.int .i64 0, .int .i64 0] 30)) := ((((Below.refl _ w).alloc (Nat.le_refl _) _).alloc (by simp) _).alloc (by simp; omega) _)
  have HSB := Lib.hid ((hs.below bel0).more bel0.size)
  have HC := Lib.hid (fun W => tax_ToDate (b + x) index of al ex A cap T W hcap)
  have hbd := toDateV_bd (base := b + x) (index := index) (of := of) (al := al) (ex := ex) (t := T)
  have hex : (toDateV (b + x) index of al ex T).2 = 0 → 0 ≤ ex ∧ ex ≤ 1125899906842624 := fun h => by
    have := (toDateV_ok h).2.2.2.1
    unfold amountB at this
    simpa using this
  have HS : Hid (stepV b t x index of al ex T = if fitsB b = false ∨ fitsB t = false ∨ fitsB x = false then ((b, t), (0, 2)) else if fitsB (b + x) = false then ((b, t), (0, 9)) else if (toDateV (b + x) index of al ex T).2 ≠ 0 then ((b, t), (0, (toDateV (b + x) index of al ex T).2)) else if fitsB ((toDateV (b + x) index of al ex T).1 - t + ex) = false then ((b, t), (0, 9)) else ((b + x, (toDateV (b + x) index of al ex T).1), ((toDateV (b + x) index of al ex T).1 - t + ex, 0))) := rfl
  generalize toDateV (b + x) index of al ex T = u at *
  clear hs hcap
  obtain ⟨u, e⟩ := u
  dsimp only at hbd hex HS HC
  have bel : ∀ w1, Below (((w.alloc (.cells #[.int .i64 b, .int .i64 t] 30)).alloc (.cells #[.int .i64 al, .int .i64 ex, .slice A T.length cap] 51)).alloc (.cells #[.int .i64 0, .int .i64 0] 30)).heap.size (((w.alloc (.cells #[.int .i64 b, .int .i64 t] 30)).alloc (.cells #[.int .i64 al, .int .i64 ex, .slice A T.length cap] 51)).alloc (.cells #[.int .i64 0, .int .i64 0] 30)) w1 → Below w.heap.size w w1 := fun w1 h => bel0.trans (h.mono bel0.size)
  have BEL := Lib.hid bel
  clear bel
  by_cases hb : fitsB b = true
  · by_cases ht : fitsB t = true
    · by_cases hx : fitsB x = true
      · have hb2 := fits_bd hb
        have ht2 := fits_bd ht
        have hx2 := fits_bd hx
        by_cases hbx : fitsB (b + x) = true
        · have hbx2 := fits_bd hbx
          by_cases he : e = 0
          · obtain ⟨x0, x1⟩ := hex he
            have he1 : (e != 0) = false := by simp [he]
            have HE := Lib.hid he
            clear he hex
            by_cases hf : fitsB (u - t + ex) = true
            · by_cases q1 : b + x = b
              · by_cases q2 : u = t
                · subst q2
                  have HS2 : Hid (stepV b u x index of al ex T = ((b, u), (ex, 0))) := by show _ = _; rw [HS.out, if_neg (by simp [hb, ht, hx]), if_neg (by simp [hbx]), if_neg (by simp [HE.out]), if_neg (by rw [hf]; simp)]; rw [q1]; congr 2; omega
                  rw [q1] at HC hbx
                  go_enter Tryz.func40, Tryz.ntmps40
                  go_wp2_with (first | (go_at_call 80; refine (tax_fits _ _).mono ?_; rintro e w' ⟨rfl, rfl⟩) | (go_at_call 81; refine (HC.out _ HSB.out).mono ?_; rintro e w1 ⟨rfl, hb1⟩; obtain ⟨hc1, hf1⟩ := bcell hb1; have hsz := hb1.size; simp only [World.size_alloc] at hsz; have hs1 : w.heap.size < w1.heap.size := (by omega); have hs2 : w.heap.size + 1 < w1.heap.size := (by omega); have hs3 : w.heap.size + 1 + 1 < w1.heap.size := (by omega); have r0 : w1.cell? ⟨w.heap.size + 1 + 1, 0, none⟩ = some (.int .i64 0) := (hc1 _ _ (by simp)).trans (by go_simp); have r1 : w1.cell? ⟨w.heap.size + 1 + 1, 1, none⟩ = some (.int .i64 0) := (hc1 _ _ (by simp)).trans (by go_simp)))
                  go_region
                  all_goals go_wp2
                  all_goals
                    exact bodyPost_ret (v := .tuple #[.agg #[.int .i64 (b), .int .i64 (u)], .int .i64 (ex), .int .i64 (0)]) (by simp [results, Tryz.results40, go_sem, (cell2a r0 r1 _ _ _).1, (cell2a r0 r1 _ _ _).2]) rfl ⟨step_ret (HS2.out), (((BEL.out _ hb1).setCell (p := ⟨w.heap.size + 1 + 1, 0, none⟩) (by dsimp; omega) _).setCell (p := ⟨w.heap.size + 1 + 1, 1, none⟩) (by dsimp; omega) _).drew.alloc (by simp; omega) _⟩
                · rw [q1] at HC hbx
                  have HS2 : Hid (stepV b t x index of al ex T = ((b, u), (u - t + ex, 0))) := by show _ = _; rw [HS.out, if_neg (by simp [hb, ht, hx]), if_neg (by rw [q1]; simp [hbx]), if_neg (by simp [HE.out]), if_neg (by simp [hf]), q1]
                  go_enter Tryz.func40, Tryz.ntmps40
                  go_wp2_with (first | (go_at_call 80; refine (tax_fits _ _).mono ?_; rintro e w' ⟨rfl, rfl⟩) | (go_at_call 81; refine (HC.out _ HSB.out).mono ?_; rintro e w1 ⟨rfl, hb1⟩; obtain ⟨hc1, hf1⟩ := bcell hb1; have hsz := hb1.size; simp only [World.size_alloc] at hsz; have hs1 : w.heap.size < w1.heap.size := (by omega); have hs2 : w.heap.size + 1 < w1.heap.size := (by omega); have hs3 : w.heap.size + 1 + 1 < w1.heap.size := (by omega); have r0 : w1.cell? ⟨w.heap.size + 1 + 1, 0, none⟩ = some (.int .i64 0) := (hc1 _ _ (by simp)).trans (by go_simp); have r1 : w1.cell? ⟨w.heap.size + 1 + 1, 1, none⟩ = some (.int .i64 0) := (hc1 _ _ (by simp)).trans (by go_simp)))
                  exact bodyPost_ret (v := .tuple #[.agg #[.int .i64 (b), .int .i64 (u)], .int .i64 (u - t + ex), .int .i64 (0)]) (by simp [results, Tryz.results40, go_sem, (cell2a r0 r1 _ _ _).1, (cell2a r0 r1 _ _ _).2]) rfl ⟨step_ret (HS2.out), (((BEL.out _ hb1).setCell (p := ⟨w.heap.size + 1 + 1, 0, none⟩) (by dsimp; omega) _).setCell (p := ⟨w.heap.size + 1 + 1, 1, none⟩) (by dsimp; omega) _).alloc (by simp; omega) _⟩
              · go_enter Tryz.func40, Tryz.ntmps40
                go_wp2_with (first | (go_at_call 80; refine (tax_fits _ _).mono ?_; rintro e w' ⟨rfl, rfl⟩) | (go_at_call 81; refine (HC.out _ HSB.out).mono ?_; rintro e w1 ⟨rfl, hb1⟩; obtain ⟨hc1, hf1⟩ := bcell hb1; have hsz := hb1.size; simp only [World.size_alloc] at hsz; have hs1 : w.heap.size < w1.heap.size := (by omega); have hs2 : w.heap.size + 1 < w1.heap.size := (by omega); have hs3 : w.heap.size + 1 + 1 < w1.heap.size := (by omega); have r0 : w1.cell? ⟨w.heap.size + 1 + 1, 0, none⟩ = some (.int .i64 0) := (hc1 _ _ (by simp)).trans (by go_simp); have r1 : w1.cell? ⟨w.heap.size + 1 + 1, 1, none⟩ = some (.int .i64 0) := (hc1 _ _ (by simp)).trans (by go_simp)))
                exact bodyPost_ret (v := .tuple #[.agg #[.int .i64 (b + x), .int .i64 (u)], .int .i64 (u - t + ex), .int .i64 (0)]) (by simp [results, Tryz.results40, go_sem, (cell2a r0 r1 _ _ _).1, (cell2a r0 r1 _ _ _).2]) rfl ⟨step_ret (by rw [HS.out, if_neg (by simp [hb, ht, hx]), if_neg (by simp [hbx]), if_neg (by simp [HE.out]), if_neg (by simp [hf])]), (((BEL.out _ hb1).setCell (p := ⟨w.heap.size + 1 + 1, 0, none⟩) (by dsimp; omega) _).setCell (p := ⟨w.heap.size + 1 + 1, 1, none⟩) (by dsimp; omega) _).alloc (by simp; omega) _⟩
            · have hf' : fitsB (u - t + ex) = false := by simpa using hf
              clear hf
              by_cases q1 : b + x = b
              · by_cases q2 : u = t
                · have : fitsB (u - t + ex) = true := by unfold fitsB; simp; omega
                  rw [hf'] at this; cases this
                · rw [q1] at HC hbx
                  have HS2 : Hid (stepV b t x index of al ex T = ((b, t), (0, 9))) := by show _ = _; rw [HS.out, if_neg (by simp [hb, ht, hx]), if_neg (by rw [q1]; simp [hbx]), if_neg (by simp [HE.out]), if_pos hf']
                  go_enter Tryz.func40, Tryz.ntmps40
                  go_wp2_with (first | (go_at_call 80; refine (tax_fits _ _).mono ?_; rintro e w' ⟨rfl, rfl⟩) | (go_at_call 81; refine (HC.out _ HSB.out).mono ?_; rintro e w1 ⟨rfl, hb1⟩; obtain ⟨hc1, hf1⟩ := bcell hb1; have hsz := hb1.size; simp only [World.size_alloc] at hsz; have hs1 : w.heap.size < w1.heap.size := (by omega); have hs2 : w.heap.size + 1 < w1.heap.size := (by omega); have hs3 : w.heap.size + 1 + 1 < w1.heap.size := (by omega); have r0 : w1.cell? ⟨w.heap.size + 1 + 1, 0, none⟩ = some (.int .i64 0) := (hc1 _ _ (by simp)).trans (by go_simp); have r1 : w1.cell? ⟨w.heap.size + 1 + 1, 1, none⟩ = some (.int .i64 0) := (hc1 _ _ (by simp)).trans (by go_simp)))
                  exact bodyPost_ret (v := .tuple #[.agg #[.int .i64 (b), .int .i64 (t)], .int .i64 (0), .int .i64 (9)]) (by simp [results, Tryz.results40, go_sem, (cell2a r0 r1 _ _ _).1, (cell2a r0 r1 _ _ _).2]) rfl ⟨step_ret (HS2.out), (((BEL.out _ hb1).setCell (p := ⟨w.heap.size + 1 + 1, 0, none⟩) (by dsimp; omega) _).setCell (p := ⟨w.heap.size + 1 + 1, 1, none⟩) (by dsimp; omega) _).alloc (by simp; omega) _⟩
              · go_enter Tryz.func40, Tryz.ntmps40
                go_wp2_with (first | (go_at_call 80; refine (tax_fits _ _).mono ?_; rintro e w' ⟨rfl, rfl⟩) | (go_at_call 81; refine (HC.out _ HSB.out).mono ?_; rintro e w1 ⟨rfl, hb1⟩; obtain ⟨hc1, hf1⟩ := bcell hb1; have hsz := hb1.size; simp only [World.size_alloc] at hsz; have hs1 : w.heap.size < w1.heap.size := (by omega); have hs2 : w.heap.size + 1 < w1.heap.size := (by omega); have hs3 : w.heap.size + 1 + 1 < w1.heap.size := (by omega); have r0 : w1.cell? ⟨w.heap.size + 1 + 1, 0, none⟩ = some (.int .i64 0) := (hc1 _ _ (by simp)).trans (by go_simp); have r1 : w1.cell? ⟨w.heap.size + 1 + 1, 1, none⟩ = some (.int .i64 0) := (hc1 _ _ (by simp)).trans (by go_simp)))
                exact bodyPost_ret (v := .tuple #[.agg #[.int .i64 (b), .int .i64 (t)], .int .i64 (0), .int .i64 (9)]) (by simp [results, Tryz.results40, go_sem, (cell2a r0 r1 _ _ _).1, (cell2a r0 r1 _ _ _).2]) rfl ⟨step_ret (by rw [HS.out, if_neg (by simp [hb, ht, hx]), if_neg (by simp [hbx]), if_neg (by simp [HE.out]), if_pos hf']), (((BEL.out _ hb1).setCell (p := ⟨w.heap.size + 1 + 1, 0, none⟩) (by dsimp; omega) _).setCell (p := ⟨w.heap.size + 1 + 1, 1, none⟩) (by dsimp; omega) _).alloc (by simp; omega) _⟩
          · have he1 : (e != 0) = true := by simp [he]
            have HE := Lib.hid he
            clear he hex
            go_enter Tryz.func40, Tryz.ntmps40
            go_wp2_with (first | (go_at_call 80; refine (tax_fits _ _).mono ?_; rintro e w' ⟨rfl, rfl⟩) | (go_at_call 81; refine (HC.out _ HSB.out).mono ?_; rintro e w1 ⟨rfl, hb1⟩; obtain ⟨hc1, hf1⟩ := bcell hb1; have hsz := hb1.size; simp only [World.size_alloc] at hsz; have hs1 : w.heap.size < w1.heap.size := (by omega); have hs2 : w.heap.size + 1 < w1.heap.size := (by omega); have hs3 : w.heap.size + 1 + 1 < w1.heap.size := (by omega); have r0 : w1.cell? ⟨w.heap.size + 1 + 1, 0, none⟩ = some (.int .i64 0) := (hc1 _ _ (by simp)).trans (by go_simp); have r1 : w1.cell? ⟨w.heap.size + 1 + 1, 1, none⟩ = some (.int .i64 0) := (hc1 _ _ (by simp)).trans (by go_simp)))
            exact bodyPost_ret (v := .tuple #[.agg #[.int .i64 (b), .int .i64 (t)], .int .i64 (0), .int .i64 (e)]) (by simp [results, Tryz.results40, go_sem, (cell2 r0 r1 _ _).1, (cell2 r0 r1 _ _).2]) rfl ⟨step_ret (by rw [HS.out, if_neg (by simp [hb, ht, hx]), if_neg (by simp [hbx]), if_pos HE.out]), ((BEL.out _ hb1).setCell (p := ⟨w.heap.size + 1 + 1, 0, none⟩) (by dsimp; omega) _).setCell (p := ⟨w.heap.size + 1 + 1, 1, none⟩) (by dsimp; omega) _⟩
        · have hbx' : fitsB (b + x) = false := by simpa using hbx
          clear hbx
          go_enter Tryz.func40, Tryz.ntmps40
          go_wp2_with (first | (go_at_call 80; refine (tax_fits _ _).mono ?_; rintro e w' ⟨rfl, rfl⟩) | (go_at_call 81; refine (HC.out _ HSB.out).mono ?_; rintro e w1 ⟨rfl, hb1⟩; obtain ⟨hc1, hf1⟩ := bcell hb1; have hsz := hb1.size; simp only [World.size_alloc] at hsz; have hs1 : w.heap.size < w1.heap.size := (by omega); have hs2 : w.heap.size + 1 < w1.heap.size := (by omega); have hs3 : w.heap.size + 1 + 1 < w1.heap.size := (by omega); have r0 : w1.cell? ⟨w.heap.size + 1 + 1, 0, none⟩ = some (.int .i64 0) := (hc1 _ _ (by simp)).trans (by go_simp); have r1 : w1.cell? ⟨w.heap.size + 1 + 1, 1, none⟩ = some (.int .i64 0) := (hc1 _ _ (by simp)).trans (by go_simp)))
          exact bodyPost_ret (v := .tuple #[.agg #[.int .i64 (b), .int .i64 (t)], .int .i64 (0), .int .i64 (9)]) (by simp [results, Tryz.results40, go_sem]) rfl ⟨step_ret (by rw [HS.out, if_neg (by simp [hb, ht, hx]), if_pos hbx']), (((Below.refl _ w).alloc (Nat.le_refl _) _).alloc (by simp) _).alloc (by simp; omega) _⟩
      · have hx' : fitsB x = false := by simpa using hx
        clear hx
        go_enter Tryz.func40, Tryz.ntmps40
        go_wp2_with (first | (go_at_call 80; refine (tax_fits _ _).mono ?_; rintro e w' ⟨rfl, rfl⟩) | (go_at_call 81; refine (HC.out _ HSB.out).mono ?_; rintro e w1 ⟨rfl, hb1⟩; obtain ⟨hc1, hf1⟩ := bcell hb1; have hsz := hb1.size; simp only [World.size_alloc] at hsz; have hs1 : w.heap.size < w1.heap.size := (by omega); have hs2 : w.heap.size + 1 < w1.heap.size := (by omega); have hs3 : w.heap.size + 1 + 1 < w1.heap.size := (by omega); have r0 : w1.cell? ⟨w.heap.size + 1 + 1, 0, none⟩ = some (.int .i64 0) := (hc1 _ _ (by simp)).trans (by go_simp); have r1 : w1.cell? ⟨w.heap.size + 1 + 1, 1, none⟩ = some (.int .i64 0) := (hc1 _ _ (by simp)).trans (by go_simp)))
        exact bodyPost_ret (v := .tuple #[.agg #[.int .i64 (b), .int .i64 (t)], .int .i64 (0), .int .i64 (2)]) (by simp [results, Tryz.results40, go_sem]) rfl ⟨step_ret (by rw [HS.out, if_pos (by simp [hx'])]), (((Below.refl _ w).alloc (Nat.le_refl _) _).alloc (by simp) _).alloc (by simp; omega) _⟩
    · have ht' : fitsB t = false := by simpa using ht
      clear ht
      go_enter Tryz.func40, Tryz.ntmps40
      go_wp2_with (first | (go_at_call 80; refine (tax_fits _ _).mono ?_; rintro e w' ⟨rfl, rfl⟩) | (go_at_call 81; refine (HC.out _ HSB.out).mono ?_; rintro e w1 ⟨rfl, hb1⟩; obtain ⟨hc1, hf1⟩ := bcell hb1; have hsz := hb1.size; simp only [World.size_alloc] at hsz; have hs1 : w.heap.size < w1.heap.size := (by omega); have hs2 : w.heap.size + 1 < w1.heap.size := (by omega); have hs3 : w.heap.size + 1 + 1 < w1.heap.size := (by omega); have r0 : w1.cell? ⟨w.heap.size + 1 + 1, 0, none⟩ = some (.int .i64 0) := (hc1 _ _ (by simp)).trans (by go_simp); have r1 : w1.cell? ⟨w.heap.size + 1 + 1, 1, none⟩ = some (.int .i64 0) := (hc1 _ _ (by simp)).trans (by go_simp)))
      exact bodyPost_ret (v := .tuple #[.agg #[.int .i64 (b), .int .i64 (t)], .int .i64 (0), .int .i64 (2)]) (by simp [results, Tryz.results40, go_sem]) rfl ⟨step_ret (by rw [HS.out, if_pos (by simp [ht'])]), (((Below.refl _ w).alloc (Nat.le_refl _) _).alloc (by simp) _).alloc (by simp; omega) _⟩
  · have hb' : fitsB b = false := by simpa using hb
    clear hb
    go_enter Tryz.func40, Tryz.ntmps40
    go_wp2_with (first | (go_at_call 80; refine (tax_fits _ _).mono ?_; rintro e w' ⟨rfl, rfl⟩) | (go_at_call 81; refine (HC.out _ HSB.out).mono ?_; rintro e w1 ⟨rfl, hb1⟩; obtain ⟨hc1, hf1⟩ := bcell hb1; have hsz := hb1.size; simp only [World.size_alloc] at hsz; have hs1 : w.heap.size < w1.heap.size := (by omega); have hs2 : w.heap.size + 1 < w1.heap.size := (by omega); have hs3 : w.heap.size + 1 + 1 < w1.heap.size := (by omega); have r0 : w1.cell? ⟨w.heap.size + 1 + 1, 0, none⟩ = some (.int .i64 0) := (hc1 _ _ (by simp)).trans (by go_simp); have r1 : w1.cell? ⟨w.heap.size + 1 + 1, 1, none⟩ = some (.int .i64 0) := (hc1 _ _ (by simp)).trans (by go_simp)))
    exact bodyPost_ret (v := .tuple #[.agg #[.int .i64 (b), .int .i64 (t)], .int .i64 (0), .int .i64 (2)]) (by simp [results, Tryz.results40, go_sem]) rfl ⟨step_ret (by rw [HS.out, if_pos (by simp [hb'])]), (((Below.refl _ w).alloc (Nat.le_refl _) _).alloc (by simp) _).alloc (by simp; omega) _⟩

end Go.Proofs.YtgepbkldgnjpfaaGreatDoor.Tx
