/- Merged from: Us1 Us2 Us3. -/
import Derived.Test.YtmngghglcgmkeaaGreatDoorBase
import Derived.Sort.WalkA
import Derived.BigRegion
import Derived.Test.YtmngghglcgmkeaaGreatDoorBk
import Derived.Sort.LotD4
import Derived.Sort.Grow
import Derived.Test.YtmngghglcgmkeaaGreatDoorShB
import Derived.Sort.LotD5
import Derived.Laws.Bits64
import Derived.Laws.Bits64b
import Derived.Sort.WalkA6
import Derived.Deep.DeepCutAuto
import Derived.Deep.LoopGhost
import Derived.Sort.WalkC4
import Derived.Deep.CutBlock
import Derived.Sort.Walk13a
import Derived.Sort.AssemblyPlain
/- Merged from: Ui1 Ui2 Ui3 Ui4 Ui5 Ui6. -/
namespace Go.Proofs.YtmngghglcgmkeaaGreatDoor
open Go.RowKit Go.Sort

abbrev eU : Int → Value := Value.int .u32
/-- A row of numbers, changed in place, some draws on. -/
def URow (w : World) (g off : Nat) (d : Array Int) (W : World) : Prop := ∃ n, W = putRow eU (Sort.ahead w n) g off d
theorem URow.drewN {w W : World} {g off : Nat} {d : Array Int} (h : URow w g off d W) (q : Nat) : URow w g off d (W.drewN q) := by
  obtain ⟨n, rfl⟩ := h
  exact ⟨n + q, putRow_drewN _ _ _ _ _ _ _⟩
theorem URow.cell {w W : World} {g off : Nat} {d e : Array Int} (hH : Holds eU w g off d) (hs : e.size = d.size) (h : URow w g off e W) {t : Nat} (ht : t < d.size) : W.cell? ⟨g, off + t, none⟩ = some (.int .u32 e[t]!) := by
  obtain ⟨n, rfl⟩ := h
  exact cell?_putRow _ _ _ _ d e (holds_ahead _ _ _ _ _ _ hH) hs t (by omega)
theorem URow.frozen {w W : World} {g off : Nat} {d e : Array Int} (hH : Holds eU w g off d) (h : URow w g off e W) {t : Nat} (ht : t < d.size) : W.frozen? ⟨g, off + t, none⟩ = false := by
  obtain ⟨n, rfl⟩ := h
  rw [frozen?_putRow]
  exact ((holds_ahead _ _ n _ _ _ hH) t ht).2
theorem URow.swap {w W : World} {g off : Nat} {e : Array Int} (h : URow w g off e W) (q : Nat) {j k : Nat} (hj : j < e.size) (hk : k < e.size) : URow w g off (swp e j k) (((W.drewN q).setCell ⟨g, off + j, none⟩ (.int .u32 e[k]!)).setCell ⟨g, off + k, none⟩ (.int .u32 e[j]!)) := by
  obtain ⟨n, rfl⟩ := h
  exact ⟨n + q, swap_worldA eU w n q g off e j k hj hk⟩

end Go.Proofs.YtmngghglcgmkeaaGreatDoor

namespace Go.Proofs.YtmngghglcgmkeaaGreatDoor
open Go.RowKit Go.Sort

theorem rev_go (i j : Nat) (d : Array Int) (h : i < j) : reverseLoop i j d = reverseLoop (i + 1) (j - 1) (swp d i j) := by rw [reverseLoop, if_pos h]
theorem rev_stop (i j : Nat) (d : Array Int) (h : ¬ i < j) : reverseLoop i j d = d := by rw [reverseLoop, if_neg h]

end Go.Proofs.YtmngghglcgmkeaaGreatDoor

namespace Go.Proofs.YtmngghglcgmkeaaGreatDoor
open Go.RowKit Go.Sort

theorem holds_grown {w w' : World} {g off pb : Nat} {d : Array Int} (h : Holds eU w g off d) (hg : w.grownBy w' (some pb)) (hne : g ≠ pb) : Holds eU w' g off d := fun j hj => by
  obtain ⟨h1, h2⟩ := h j hj
  have hlt : g < w.heap.size := cell_lt h1
  have hb := hg.block g hlt (by simpa using hne)
  exact ⟨(World.cell?_of_block (a := ⟨g, off + j, none⟩) hb).trans h1, (World.frozen?_of_block (a := ⟨g, off + j, none⟩) hb).trans h2⟩
/-- What order2 and median leave: the count of swaps, somewhere. -/
def Cnt (pb : Nat) (w : World) (s : Nat) (w' : World) : Prop := w.grownBy w' (some pb) ∧ Bk pb 3 #[.int .i64 s] w'

theorem order2_or (d : Array Int) (a b s : Nat) : order2 ltInt d a b s = (b, a, s + 1) ∨ order2 ltInt d a b s = (a, b, s) := by
  unfold order2
  split
  · exact .inl rfl
  · exact .inr rfl
theorem cnt_trans {pb s t : Nat} {a b c : World} (h : Cnt pb a s b) (k : Cnt pb b t c) : Cnt pb a t c :=
  ⟨⟨k.1.os.trans h.1.os, k.1.tape.trans h.1.tape, k.1.output.trans h.1.output, Nat.le_trans h.1.size k.1.size, fun i hi hn => (k.1.block i (Nat.lt_of_lt_of_le hi h.1.size) hn).trans (h.1.block i hi hn)⟩, k.2⟩

end Go.Proofs.YtmngghglcgmkeaaGreatDoor

namespace Go.Proofs.YtmngghglcgmkeaaGreatDoor
open Go.RowKit Go.Sort

theorem sift_end (hi first r : Nat) (d : Array Int) (h : 2 * r + 1 ≥ hi) : siftDown ltInt hi first r d = d := by rw [siftDown, dif_pos h]
theorem sift_up (hi first r : Nat) (d : Array Int) (h : 2 * r + 2 < hi) (hl : ltInt d[first + (2 * r + 1)]! d[first + (2 * r + 2)]! = true) : siftDown ltInt hi first r d = if ltInt d[first + r]! d[first + (2 * r + 2)]! = true then siftDown ltInt hi first (2 * r + 2) (swp d (first + r) (first + (2 * r + 2))) else d := by
  rw [siftDown, dif_neg (by omega)]
  rw [if_pos (by rw [Bool.and_eq_true]; exact ⟨decide_eq_true (by omega), hl⟩)]
  cases ltInt d[first + r]! d[first + (2 * r + 2)]! <;> simp [h]
theorem sift_stay (hi first r : Nat) (d : Array Int) (h0 : ¬ 2 * r + 1 ≥ hi) (h : ¬ 2 * r + 2 < hi ∨ ltInt d[first + (2 * r + 1)]! d[first + (2 * r + 2)]! = false) : siftDown ltInt hi first r d = if ltInt d[first + r]! d[first + (2 * r + 1)]! = true then siftDown ltInt hi first (2 * r + 1) (swp d (first + r) (first + (2 * r + 1))) else d := by
  rw [siftDown, dif_neg h0]
  rw [if_neg (by
    rw [Bool.and_eq_true]
    rintro ⟨h1, h2⟩
    have h3 := of_decide_eq_true h1
    rcases h with h | h
    · omega
    · have h4 : ltInt d[first + (2 * r + 1)]! d[first + (2 * r + 2)]! = true := h2
      rw [h] at h4
      cases h4)]
  cases ltInt d[first + r]! d[first + (2 * r + 1)]! <;> simp

end Go.Proofs.YtmngghglcgmkeaaGreatDoor

namespace Go.Proofs.YtmngghglcgmkeaaGreatDoor
open Go.RowKit Go.Sort

theorem sift_size (hi first : Nat) : ∀ (n r : Nat) (d : Array Int), hi - r ≤ n → (siftDown ltInt hi first r d).size = d.size := by
  intro n
  induction n with
  | zero => intro r d h; rw [sift_end _ _ _ _ (by omega)]
  | succ n ih =>
    intro r d h
    by_cases h0 : 2 * r + 1 ≥ hi
    · rw [sift_end _ _ _ _ h0]
    · by_cases hu : 2 * r + 2 < hi ∧ ltInt d[first + (2 * r + 1)]! d[first + (2 * r + 2)]! = true
      · rw [sift_up _ _ _ _ hu.1 hu.2]
        split
        · rw [ih _ _ (by omega), size_swp]
        · rfl
      · rw [sift_stay _ _ _ _ h0 (by
          by_cases h1 : 2 * r + 2 < hi
          · exact .inr (by rw [← Bool.not_eq_true]; exact fun h2 => hu ⟨h1, h2⟩)
          · exact .inl h1)]
        split
        · rw [ih _ _ (by omega), size_swp]
        · rfl

end Go.Proofs.YtmngghglcgmkeaaGreatDoor

namespace Go.Proofs.YtmngghglcgmkeaaGreatDoor
open Go.RowKit Go.Sort

/-- The row reads d; all else that was there is as it was. -/
def UG (w : World) (g off : Nat) (d : Array Int) (W : World) : Prop := w.grownBy W (some g) ∧ W.heap[g]? = (putRow eU w g off d).heap[g]?
theorem row_block (w : World) (g off : Nat) (d : Array Int) : (putRow eU w g off d).heap[g]? = w.heap[g]?.map (onCells (putCells eU off d)) := by
  simp [putRow, mapBlock, Array.getElem?_modify]
theorem row_grownBy (w : World) (g off : Nat) (d : Array Int) : w.grownBy (putRow eU w g off d) (some g) :=
  ⟨rfl, rfl, rfl, by simp [putRow, mapBlock], fun k _ hk => by
    have hne : g ≠ k := fun h => hk (by rw [h])
    simp [putRow, mapBlock, Array.getElem?_modify, hne]⟩
theorem grown_trans {a b c : World} {r : Option Nat} (h : a.grownBy b r) (k : b.grownBy c r) : a.grownBy c r :=
  ⟨k.os.trans h.os, k.tape.trans h.tape, k.output.trans h.output, Nat.le_trans h.size k.size, fun i hi hn => (k.block i (Nat.lt_of_lt_of_le hi h.size) hn).trans (h.block i hi hn)⟩
theorem grown_weak {a b : World} {r : Option Nat} (h : a.grownBy b none) : a.grownBy b r := ⟨h.os, h.tape, h.output, h.size, fun i hi _ => h.block i hi (by simp)⟩
section
variable {w W V : World} {g off : Nat} {d e : Array Int}
theorem UG.refl (hH : Holds eU w g off d) : UG w g off d w := ⟨World.grownBy.refl _ _, by rw [putRow_self _ _ _ _ _ hH]⟩
theorem UG.ofRow (h : URow w g off d W) : UG w g off d W := by
  obtain ⟨n, rfl⟩ := h
  have h := row_grownBy (Sort.ahead w n) g off d
  exact ⟨⟨h.os, h.tape, h.output, h.size, h.block⟩, by rw [row_block, row_block]; rfl⟩
theorem UG.holds (h : UG w g off e W) (hH : Holds eU w g off d) (hs : e.size = d.size) : Holds eU W g off e := fun j hj => by
  have k := holds_putRow eU w g off d e hH hs j hj
  exact ⟨(World.cell?_of_block (a := ⟨g, off + j, none⟩) h.2).trans k.1, (World.frozen?_of_block (a := ⟨g, off + j, none⟩) h.2).trans k.2⟩
theorem UG.lt (h : UG w g off e W) (hg : g < w.heap.size) : g < W.heap.size := Nat.lt_of_lt_of_le hg h.1.size
theorem UG.trans (h : UG w g off d W) (k : UG W g off e V) (hs : e.size = d.size) : UG w g off e V := by
  refine ⟨grown_trans h.1 k.1, ?_⟩
  rw [k.2, row_block, h.2, ← row_block (putRow eU w g off d), putRow_putRow _ _ _ _ _ _ hs]
theorem UG.same (h : UG w g off d W) (k : W.grownBy V none) (hg : g < w.heap.size) : UG w g off d V :=
  ⟨grown_trans h.1 (grown_weak k), (k.block g (h.lt hg) (by simp)).trans h.2⟩
/-- A change in another block, a newer one. -/
theorem UG.aside {p : Nat} (h : UG w g off d W) (k : W.grownBy V (some p)) (hp : w.heap.size ≤ p) (hg : g < w.heap.size) : UG w g off d V :=
  ⟨⟨k.os.trans h.1.os, k.tape.trans h.1.tape, k.output.trans h.1.output, Nat.le_trans h.1.size k.size, fun i hi hn => (k.block i (Nat.lt_of_lt_of_le hi h.1.size) (by simp; omega)).trans (h.1.block i hi hn)⟩, (k.block g (h.lt hg) (by simp; omega)).trans h.2⟩
theorem UG.drewN (h : UG w g off d W) (n : Nat) : UG w g off d (W.drewN n) := ⟨⟨h.1.os, h.1.tape, h.1.output, h.1.size, h.1.block⟩, h.2⟩
theorem UG.cell (h : UG w g off e W) (hH : Holds eU w g off d) (hs : e.size = d.size) {t : Nat} (ht : t < d.size) : W.cell? ⟨g, off + t, none⟩ = some (.int .u32 e[t]!) := (h.holds hH hs t (by omega)).1
theorem UG.frozen (h : UG w g off e W) (hH : Holds eU w g off d) (hs : e.size = d.size) {t : Nat} (ht : t < d.size) : W.frozen? ⟨g, off + t, none⟩ = false := (h.holds hH hs t (by omega)).2
theorem set_block {U : World} (h : W.heap[g]? = U.heap[g]?) (o : Nat) (v : Value) : (W.setCell ⟨g, o, none⟩ v).heap[g]? = (U.setCell ⟨g, o, none⟩ v).heap[g]? := by
  rw [setCell_eq, setCell_eq]
  simp [mapBlock, Array.getElem?_modify, h]
theorem UG.swap (h : UG w g off e W) (q : Nat) {j k : Nat} (hj : j < e.size) (hk : k < e.size) : UG w g off (swp e j k) (((W.drewN q).setCell ⟨g, off + j, none⟩ (.int .u32 e[k]!)).setCell ⟨g, off + k, none⟩ (.int .u32 e[j]!)) := by
  refine ⟨grown_trans (grown_trans (h.drewN q).1 (gSet (W.drewN q) _ _)) (gSet _ _ _), ?_⟩
  have h2 : (W.drewN q).heap[g]? = (putRow eU w g off e).heap[g]? := h.2
  have k2 := set_block (set_block h2 (off + j) (.int .u32 e[k]!)) (off + k) (.int .u32 e[j]!)
  rw [putRow_swp eU w g off e j k hj hk] at k2
  exact k2
end

theorem holds_alloc {w : World} {g off : Nat} {d : Array Int} (h : Holds eU w g off d) (o : Obj) : Holds eU (w.alloc o) g off d := fun j hj => by
  obtain ⟨h1, h2⟩ := h j hj
  have hlt : g < w.heap.size := cell_lt h1
  have hb : (w.alloc o).heap[g]? = w.heap[g]? := (World.grownBy_alloc w o none).block g hlt (by simp)
  exact ⟨(World.cell?_of_block (a := ⟨g, off + j, none⟩) hb).trans h1, (World.frozen?_of_block (a := ⟨g, off + j, none⟩) hb).trans h2⟩
theorem alloc_none {w w' : World} {o : Obj} (h : (w.alloc o).grownBy w' (some w.heap.size)) : w.grownBy w' none :=
  ⟨h.os, h.tape, h.output, Nat.le_trans (by simp) h.size, fun k hk _ => (h.block k (by simp; omega) (by simp; omega)).trans ((World.grownBy_alloc w o none).block k hk (by simp))⟩
theorem hint_key (s : Nat) : (s = 0 ∧ hintCode (hintOf s) = 1) ∨ (s = 12 ∧ hintCode (hintOf s) = 2) ∨ (s ≠ 0 ∧ s ≠ 12 ∧ hintCode (hintOf s) = 0) := by
  unfold hintOf
  by_cases h0 : s = 0
  · exact .inl ⟨h0, by rw [if_pos h0]; rfl⟩
  · by_cases h1 : s = 12
    · exact .inr (.inl ⟨h1, by rw [if_neg h0, if_pos h1]; rfl⟩)
    · exact .inr (.inr ⟨h0, h1, by rw [if_neg h0, if_neg h1]; rfl⟩)

/-- The world in which the swaps have been counted up to s. -/
def PW (w : World) (s : Nat) (W : World) : Prop := Cnt w.heap.size (w.alloc (.cells #[.int .i64 0] 3)) s W
theorem PW.cell {w W : World} {s : Nat} (h : PW w s W) : W.cell? ⟨w.heap.size, 0, none⟩ = some (.int .i64 s) := h.2.cell 0
theorem PW.none_ {w W : World} {s : Nat} (h : PW w s W) : w.grownBy W none := alloc_none h.1
theorem PW.zero (w : World) : PW w 0 (w.alloc (.cells #[.int .i64 0] 3)) := ⟨World.grownBy.refl _ _, Bk.new _ _ _⟩
def TwoI (p h : Int) (w : World) (e : Ending) (w' : World) : Prop := e = .returned (.tuple #[.int .i64 p, .int .i64 h]) ∧ w.grownBy w' none
theorem TwoI.mk {p h : Int} {w w' : World} {s : Nat} (k : PW w s w') {q : Int} (hq : h = q) : TwoI p h w (.returned (.tuple #[.int .i64 p, .int .i64 q])) w' := ⟨by rw [hq], k.none_⟩

end Go.Proofs.YtmngghglcgmkeaaGreatDoor

/- Merged from: Ui7 Ui8. -/
namespace Go.Proofs.YtmngghglcgmkeaaGreatDoor
open Go.RowKit Go.Sort

theorem bitLen_log (x : Nat) (h : x < 2 ^ 64) : Lib.bitLen x = bitsLen x := by
  induction x using Nat.strongRecOn with
  | _ x ih =>
    by_cases h0 : x = 0
    · subst h0; rfl
    · rw [Lib.bitLen_half x h0 h, ih (x / 2) (by omega) (by omega)]
      unfold bitsLen
      rw [if_neg h0, Nat.log2_def x]
      by_cases h2 : 2 ≤ x
      · rw [if_pos h2, if_neg (by omega)]; omega
      · obtain rfl : x = 1 := by omega
        simp
theorem pow_wrap (k : Nat) (hk : k ≤ 62) : IntKind.u64.wrap ((2 : Int) ^ k) = ((1 <<< k : Nat) : Int) := by
  have h : (2 : Nat) ^ k ≤ 2 ^ 62 := Nat.pow_le_pow_right (by decide) hk
  rw [IntKind.wrap_u64, Nat.one_shiftLeft, show ((2 : Int) ^ k) = ((2 ^ k : Nat) : Int) by push_cast; rfl]
  generalize (2 : Nat) ^ k = p at h
  omega
theorem u_len (n : Nat) (hn : n ≤ 1000000) (w : World) : Calls Tryz.prog 125 #[.int .u64 n] w fun e w' => e = .returned (.int .i64 (bitsLen n : Nat)) ∧ w' = w := by
  have h := Tryz.bits_Len (n : Int) w (by omega) (by omega)
  rwa [Int.toNat_natCast, bitLen_log _ (by omega)] at h
theorem u_pow2 (n : Nat) (hn : n ≤ 1000000) (w : World) : Calls Tryz.prog 175 #[.int .i64 n] w fun e w' => e = .returned (.int .u64 ((1 <<< bitsLen n : Nat) : Int)) ∧ w' = w := by
  have hL := Lib.hid (u_len n hn)
  have hk : bitsLen n ≤ 62 := (bitsLen_le_iff n 62).2 (by omega)
  have hp := pow_wrap (bitsLen n) hk
  go_enter Tryz.func175, Tryz.ntmps175
  go_wp2_with fail
  refine (hL.out _).mono ?_
  rintro e w' ⟨rfl, rfl⟩
  go_wp2
  go_ret
  exact ⟨rfl, rfl⟩

/-- What the generator's cell holds. -/
def Rn (rb : Nat) (r : Nat) (w : World) : Prop := Bk rb 222 #[.int .u64 r] w
theorem Rn.cell {rb r : Nat} {w : World} (h : Rn rb r w) : w.cell? ⟨rb, 0, none⟩ = some (.int .u64 r) := Bk.cell h 0
theorem Rn.frozen {rb r : Nat} {w : World} (h : Rn rb r w) : w.frozen? ⟨rb, 0, none⟩ = false := Bk.frozen h 0

theorem gDrew3 {a b : World} {r : Option Nat} (h : a.grownBy b r) : a.grownBy b.drew.drew.drew r := ⟨h.os, h.tape, h.output, h.size, h.block⟩
theorem set_set (w : World) (g o : Nat) (v v' : Value) : (w.setCell ⟨g, o, none⟩ v).setCell ⟨g, o, none⟩ v' = w.setCell ⟨g, o, none⟩ v' := by
  rw [setCell_eq, setCell_eq, mapBlock_mapBlock, setCell_eq]
  congr 1
  funext c
  simp

set_option maxHeartbeats 2000000 in
theorem u_next (rb X : Nat) (hX : X < 18446744073709551616) (w : World) (hR : Rn rb X w) :
    Calls Tryz.prog 176 #[.pointer (some ⟨rb, 0, none⟩)] w fun e w' => e = .returned (.int .u64 (xorNextN X : Nat)) ∧ w.grownBy w' (some rb) ∧ Rn rb (xorNextN X) w' := by
  obtain ⟨A, hA⟩ : ∃ A : Nat, A = X ^^^ (X * 8192 % 18446744073709551616) := ⟨_, rfl⟩
  obtain ⟨B, hB⟩ : ∃ B : Nat, B = A ^^^ (A / 128) := ⟨_, rfl⟩
  obtain ⟨C, hC⟩ : ∃ C : Nat, C = B ^^^ (B * 131072 % 18446744073709551616) := ⟨_, rfl⟩
  have lA : A < 18446744073709551616 := by rw [hA]; exact Nat.xor_lt_two_pow (n := 64) (by omega) (by omega)
  have lB : B < 18446744073709551616 := by rw [hB]; exact Nat.xor_lt_two_pow (n := 64) (by omega) (by omega)
  have e1 : bits .xor .u64 (X : Int) (IntKind.u64.wrap ((X : Int) * 8192)) = (A : Int) := by
    rw [IntKind.wrap_u64, show ((X : Int) * 8192 % 18446744073709551616) = ((X * 8192 % 18446744073709551616 : Nat) : Int) by omega, bits_xor_u64_nat _ _ hX (by omega), hA]
  have e2 : bits .xor .u64 (A : Int) ((A : Int) / 128) = (B : Int) := by
    rw [show ((A : Int) / 128) = ((A / 128 : Nat) : Int) by omega, bits_xor_u64_nat _ _ lA (by omega), hB]
  have e3 : bits .xor .u64 (B : Int) (IntKind.u64.wrap ((B : Int) * 131072)) = (C : Int) := by
    rw [IntKind.wrap_u64, show ((B : Int) * 131072 % 18446744073709551616) = ((B * 131072 % 18446744073709551616 : Nat) : Int) by omega, bits_xor_u64_nat _ _ lB (by omega), hC]
  have hv : xorNextN X = C := by unfold xorNextN; simp only []; rw [← hA, ← hB, ← hC]
  rw [hv]
  clear hA hB hC hv
  have c0 := hR.cell
  have f0 := hR.frozen
  have HR := Lib.hid hR
  have hss : ∀ v v', (w.setCell ⟨rb, 0, none⟩ v).setCell ⟨rb, 0, none⟩ v' = w.setCell ⟨rb, 0, none⟩ v' := set_set w rb 0
  clear hR
  go_enter Tryz.func176, Tryz.ntmps176
  go_wp2
  go_region
  all_goals go_wp2
  all_goals go_region
  all_goals go_wp2
  all_goals go_region
  all_goals go_wp2
  all_goals go_ret
  all_goals exact ⟨rfl, gDrew3 (gSet _ 0 _), HR.out.set_ 0 _⟩

end Go.Proofs.YtmngghglcgmkeaaGreatDoor

namespace Go.Proofs.YtmngghglcgmkeaaGreatDoor
open Go.RowKit Go.Sort

def bpS (a L M i0 : Nat) (d : Array Int) : Nat → UInt64 × Array Int
  | 0 => (UInt64.ofNat L, d)
  | t + 1 => breakStep a L M (bpS a L M i0 d t) (i0 + t)
theorem break_eq (d : Array Int) (a L : Nat) (h8 : 8 ≤ L) : breakPatterns d a (a + L) = (bpS a L (1 <<< bitsLen L) (a + L / 4 * 2 - 1) d 3).2 := by
  unfold breakPatterns
  simp only [Nat.add_sub_cancel_left]
  rw [if_pos h8]
  rfl
theorem bpS_succ {a L M i0 t o : Nat} {d e : Array Int} {r : UInt64} (h : bpS a L M i0 d t = (r, e)) (ho : (if (xorNext r).toNat &&& (M - 1) ≥ L then ((xorNext r).toNat &&& (M - 1)) - L else (xorNext r).toNat &&& (M - 1)) = o) :
    bpS a L M i0 d (t + 1) = (xorNext r, swp e (i0 + t) (a + o)) := by
  rw [bpS, h]
  unfold breakStep
  simp only [ho]
theorem break_end {a L M i0 : Nat} {d e : Array Int} {r : UInt64} (h : bpS a L M i0 d 3 = (r, e)) : (bpS a L M i0 d 3).2 = e := by rw [h]

end Go.Proofs.YtmngghglcgmkeaaGreatDoor

/- Merged from: Ui9 UiA UiB UiC. -/
namespace Go.Proofs.YtmngghglcgmkeaaGreatDoor
open Go.RowKit Go.Sort

theorem shiftDown_size : ∀ (j : Nat) (d : Array Int), (shiftDown ltInt j d).size = d.size
  | 0, d => rfl
  | j + 1, d => by
    rw [shiftDown]
    split
    · rfl
    · rw [shiftDown_size j, size_swp]
theorem shiftUp_size (b : Nat) : ∀ (n j : Nat) (d : Array Int), b - j ≤ n → (shiftUp ltInt b j d).size = d.size
  | 0, j, d, h => by rw [shiftUp, if_neg (by omega)]
  | n + 1, j, d, h => by
    rw [shiftUp]
    split
    · split
      · rfl
      · rw [shiftUp_size b n (j + 1) _ (by omega), size_swp]
    · rfl
theorem fixDown_size (a k : Nat) (d : Array Int) : (fixDown ltInt a k d).size = d.size := by
  unfold fixDown
  split
  · exact shiftDown_size _ _
  · rfl
theorem fixUp_size (b k : Nat) (d : Array Int) : (fixUp ltInt b k d).size = d.size := by
  unfold fixUp
  split
  · exact shiftUp_size _ _ _ _ (Nat.le_refl _)
  · rfl
def BoolUG (w : World) (g off : Nat) (r : Array Int × Bool) (e : Ending) (w' : World) : Prop := e = .returned (.bool r.2) ∧ UG w g off r.1 w'
theorem BoolUG.mk {w w' : World} {g off : Nat} {r : Array Int × Bool} {d : Array Int} {b : Bool} (h : r = (d, b)) (k : UG w g off d w') : BoolUG w g off r (.returned (.bool b)) w' := by subst h; exact ⟨rfl, k⟩

end Go.Proofs.YtmngghglcgmkeaaGreatDoor

namespace Go.Proofs.YtmngghglcgmkeaaGreatDoor
open Go.RowKit Go.Sort

def IntUG (w : World) (g off : Nat) (r : Nat × Array Int) (e : Ending) (w' : World) : Prop := e = .returned (.int .i64 r.1) ∧ UG w g off r.2 w'
theorem IntUG.mk {w w' : World} {g off : Nat} {r : Nat × Array Int} {d : Array Int} {i : Nat} (h : r = (i, d)) (k : UG w g off d w') : IntUG w g off r (.returned (.int .i64 i)) w' := by subst h; exact ⟨rfl, k⟩

end Go.Proofs.YtmngghglcgmkeaaGreatDoor

namespace Go.Proofs.YtmngghglcgmkeaaGreatDoor
open Go.RowKit Go.Sort

def PartUG (w : World) (g off : Nat) (r : Nat × Bool × Array Int) (e : Ending) (w' : World) : Prop := e = .returned (.tuple #[.int .i64 r.1, .bool r.2.1]) ∧ UG w g off r.2.2 w'
theorem PartUG.mk {w w' : World} {g off : Nat} {r : Nat × Bool × Array Int} {d : Array Int} {i : Nat} {b : Bool} (h : r = (i, b, d)) (k : UG w g off d w') : PartUG w g off r (.returned (.tuple #[.int .i64 i, .bool b])) w' := by subst h; exact ⟨rfl, k⟩

end Go.Proofs.YtmngghglcgmkeaaGreatDoor

namespace Go.Proofs.YtmngghglcgmkeaaGreatDoor
open Go.RowKit Go.Sort

/-! ### The callees, from a world in which the row has been changed -/
section
variable {w W : World} {g off : Nat} {d e : Array Int}
end

theorem hint_two {h : Hint} (e : hintCode h = 2) : h = .decreasing := by cases h <;> simp [hintCode] at e ⊢
theorem eighths {x y p q : Nat} (h1 : q ≤ p) (h2 : y ≤ x) : decide (((x : Int) - (y : Int)) / 8 ≤ (p : Int) - (q : Int)) = decide (p - q ≥ (x - y) / 8) := decide_eq_decide.2 ⟨fun h => by omega, fun h => by omega⟩

end Go.Proofs.YtmngghglcgmkeaaGreatDoor
