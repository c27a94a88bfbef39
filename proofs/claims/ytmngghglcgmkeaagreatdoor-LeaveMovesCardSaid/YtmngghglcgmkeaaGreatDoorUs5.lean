/- Persons of a view: the plain law, slices.Sort and Compact in a row of one's own, the program's Persons. -/
import Derived.Test.YtmngghglcgmkeaaGreatDoorUsa
import Derived.Test.YtmngghglcgmkeaaGreatDoorShC
import Derived.Test.YtmngghglcgmkeaaGreatDoorThos
import Derived.Test.YtmngghglcgmkeaaGreatDoorChgd
import Derived.Maps.AppendAt
import Derived.Deep.RegionLaw
import Derived.Deep.Upon
import Derived.Deep.DeepCutAuto
import Derived.Deep.CutBlock
import Derived.Deep.LoopGhost
namespace Go.Proofs.YtmngghglcgmkeaaGreatDoor

def insU : List Int → Int → List Int
  | [], p => [p]
  | x :: r, p => if x < p then x :: insU r p else if x = p then x :: r else p :: x :: r
def cmpF (x : Int) : List Int → List Int
  | [] => []
  | y :: r => if y = x then cmpF x r else y :: cmpF y r
def cmpct : List Int → List Int
  | [] => []
  | x :: r => x :: cmpF x r
theorem mem_insU (p y : Int) : ∀ l : List Int, y ∈ insU l p ↔ y = p ∨ y ∈ l
  | [] => by simp [insU]
  | x :: r => by
    unfold insU
    split
    · simp only [List.mem_cons, mem_insU p y r]
      constructor
      · rintro (h | h | h)
        · exact .inr (.inl h)
        · exact .inl h
        · exact .inr (.inr h)
      · rintro (h | h | h)
        · exact .inr (.inl h)
        · exact .inl h
        · exact .inr (.inr h)
    · split
      · rename_i h; subst h; simp
      · simp
theorem sorted_insU (p : Int) : ∀ l : List Int, l.Pairwise (· < ·) → (insU l p).Pairwise (· < ·)
  | [], _ => by simp [insU]
  | x :: r, h => by
    have h' := List.pairwise_cons.1 h
    unfold insU
    split
    · rename_i hx
      refine List.pairwise_cons.2 ⟨fun y hy => ?_, sorted_insU p r h'.2⟩
      rcases (mem_insU p y r).1 hy with rfl | hy
      · exact hx
      · exact h'.1 y hy
    · split
      · exact h
      · rename_i h1 h2
        refine List.pairwise_cons.2 ⟨fun y hy => ?_, h⟩
        rcases List.mem_cons.1 hy with rfl | hy
        · omega
        · have := h'.1 y hy; omega
theorem strict_ext : ∀ a b : List Int, a.Pairwise (· < ·) → b.Pairwise (· < ·) → (∀ x, x ∈ a ↔ x ∈ b) → a = b
  | [], [], _, _, _ => rfl
  | [], y :: b, _, _, h => absurd ((h y).2 (by simp)) (by simp)
  | x :: a, [], _, _, h => absurd ((h x).1 (by simp)) (by simp)
  | x :: a, y :: b, ha, hb, h => by
    have ha' := List.pairwise_cons.1 ha
    have hb' := List.pairwise_cons.1 hb
    have hxy : x = y := by
      have h1 := (h x).1 (by simp)
      have h2 := (h y).2 (by simp)
      rcases List.mem_cons.1 h1 with e | h1
      · exact e
      · rcases List.mem_cons.1 h2 with e | h2
        · exact e.symm
        · have := hb'.1 x h1; have := ha'.1 y h2; omega
    subst hxy
    congr 1
    refine strict_ext a b ha'.2 hb'.2 fun z => ⟨fun hz => ?_, fun hz => ?_⟩
    · rcases List.mem_cons.1 ((h z).1 (List.mem_cons_of_mem _ hz)) with e | k
      · subst e; have := ha'.1 z hz; omega
      · exact k
    · rcases List.mem_cons.1 ((h z).2 (List.mem_cons_of_mem _ hz)) with e | k
      · subst e; have := hb'.1 z hz; omega
      · exact k
theorem mem_cmpF (y : Int) : ∀ (l : List Int) (x : Int), y ∈ x :: cmpF x l ↔ y ∈ x :: l
  | [], x => by simp [cmpF]
  | z :: r, x => by
    unfold cmpF
    split
    · rename_i h; subst h
      rw [mem_cmpF y r z]; simp
    · rw [List.mem_cons, mem_cmpF y r z, List.mem_cons, List.mem_cons]
      simp
theorem sorted_cmpF : ∀ (l : List Int) (x : Int), (x :: l).Pairwise (· ≤ ·) → (x :: cmpF x l).Pairwise (· < ·)
  | [], x, _ => by simp [cmpF]
  | z :: r, x, h => by
    have h1 := List.pairwise_cons.1 h
    have h2 := List.pairwise_cons.1 h1.2
    unfold cmpF
    split
    · rename_i e; subst e
      exact sorted_cmpF r z h1.2
    · rename_i e
      refine List.pairwise_cons.2 ⟨fun y hy => ?_, sorted_cmpF r z h1.2⟩
      have hz := h1.1 z (by simp)
      rcases List.mem_cons.1 ((mem_cmpF y r z).1 hy) with rfl | hy
      · omega
      · have := h2.1 y hy; omega
theorem mem_foldU (y : Int) : ∀ (xs l : List Int), y ∈ xs.foldl insU l ↔ y ∈ xs ∨ y ∈ l
  | [], l => by simp
  | x :: xs, l => by
    rw [List.foldl_cons, mem_foldU y xs, mem_insU, List.mem_cons]
    constructor
    · rintro (h | h | h)
      · exact .inl (.inr h)
      · exact .inl (.inl h)
      · exact .inr h
    · rintro ((h | h) | h)
      · exact .inr (.inl h)
      · exact .inl h
      · exact .inr (.inr h)
theorem sorted_foldU : ∀ (xs l : List Int), l.Pairwise (· < ·) → (xs.foldl insU l).Pairwise (· < ·)
  | [], _, h => h
  | x :: xs, l, h => sorted_foldU xs _ (sorted_insU x l h)
theorem cmpct_sort (xs : List Int) : cmpct (xs.mergeSort fun x y => decide (x ≤ y)) = xs.foldl insU [] := by
  have hs : (xs.mergeSort fun x y => decide (x ≤ y)).Pairwise (· ≤ ·) := by
    have h := List.pairwise_mergeSort (le := fun x y : Int => decide (x ≤ y)) (by intro a b c; simp; omega) (by intro a b; simp; omega) xs
    exact h.imp (by intro a b h; simpa using h)
  have hm : ∀ y, y ∈ (xs.mergeSort fun x y => decide (x ≤ y)) ↔ y ∈ xs := fun y => List.mem_mergeSort
  generalize (xs.mergeSort fun x y => decide (x ≤ y)) = l at hs hm
  refine strict_ext _ _ ?_ (sorted_foldU xs [] .nil) fun y => ?_
  · cases l with
    | nil => exact .nil
    | cons x l => exact sorted_cmpF l x hs
  · rw [mem_foldU, ← hm y]
    cases l with
    | nil => simp [cmpct]
    | cons x l => simp only [cmpct, mem_cmpF]; simp
/-- Where a person's place is among those that rise. -/
def lead (l : List Int) (p : Int) : Nat := (l.takeWhile fun x => decide (x < p)).length
theorem lead_le (l : List Int) (p : Int) : lead l p ≤ l.length := List.Sublist.length_le (List.takeWhile_sublist _)
theorem insU_at (p : Int) : ∀ l : List Int, insU l p = if l[lead l p]? = some p then l else l.take (lead l p) ++ [p] ++ l.drop (lead l p)
  | [] => by simp [insU, lead]
  | x :: r => by
    unfold insU
    by_cases h : x < p
    · have e : lead (x :: r) p = lead r p + 1 := by simp [lead, h]
      rw [if_pos h, e, insU_at p r]
      simp only [List.getElem?_cons_succ, List.take_succ_cons, List.drop_succ_cons]
      split <;> simp
    · have e : lead (x :: r) p = 0 := by simp [lead, h]
      rw [if_neg h, e]
      simp
theorem lead_lt (p : Int) : ∀ (l : List Int) (i : Nat), i < lead l p → ∃ x, l[i]? = some x ∧ x < p
  | [], i, h => by simp [lead] at h
  | x :: r, i, h => by
    by_cases hx : x < p
    · have e : lead (x :: r) p = lead r p + 1 := by simp [lead, hx]
      cases i with
      | zero => exact ⟨x, rfl, hx⟩
      | succ i => exact lead_lt p r i (by omega)
    · have e : lead (x :: r) p = 0 := by simp [lead, hx]
      omega
theorem lead_at (p : Int) : ∀ (l : List Int) (x : Int), l[lead l p]? = some x → ¬ x < p
  | [], x, h => by simp at h
  | y :: r, x, h => by
    by_cases hy : y < p
    · have e : lead (y :: r) p = lead r p + 1 := by simp [lead, hy]
      rw [e] at h
      exact lead_at p r x (by simpa using h)
    · have e : lead (y :: r) p = 0 := by simp [lead, hy]
      rw [e] at h
      simp at h
      omega
theorem insU_len (p : Int) : ∀ l : List Int, (insU l p).length ≤ l.length + 1
  | [] => by simp [insU]
  | x :: r => by
    unfold insU
    have := insU_len p r
    split
    · simp; omega
    · split <;> simp
theorem foldU_len : ∀ (xs l : List Int), (xs.foldl insU l).length ≤ l.length + xs.length
  | [], l => by simp
  | x :: xs, l => by
    have h1 := foldU_len xs (insU l x)
    have h2 := insU_len x l
    rw [List.foldl_cons, List.length_cons]; omega
end Go.Proofs.YtmngghglcgmkeaaGreatDoor

namespace Go.Proofs.YtmngghglcgmkeaaGreatDoor
open Go.RowKit Go.Sort

/-- What is kept, in plain lists. -/
theorem compactUpTo_cmpF (d : Array Int) : ∀ (n k : Nat), k + 1 + n = d.size → Lib.compactUpTo d d.size = Lib.compactUpTo d (k + 1) ++ cmpF d[k]! (d.toList.drop (k + 1)) := by
  intro n
  induction n with
  | zero =>
    intro k hk
    have e : d.size = k + 1 := by omega
    have h0 : d.toList.drop (k + 1) = [] := List.drop_eq_nil_of_le (by rw [Array.length_toList]; omega)
    rw [e, h0, cmpF, List.append_nil]
  | succ n ih =>
    intro k hk
    have hlt : k + 1 < d.size := by omega
    have hd : d.toList.drop (k + 1) = d[k + 1]! :: d.toList.drop (k + 1 + 1) := by
      rw [List.drop_eq_getElem_cons (by rw [Array.length_toList]; exact hlt)]
      congr 1
      simp [getElem!_pos d (k + 1) hlt]
    rw [hd, cmpF, ih (k + 1) (by omega), Lib.compactUpTo_succ d (k + 1)]
    by_cases h : d[k + 1]! = d[k]!
    · rw [Lib.keeps_neg (by omega) h, if_pos h, h]
      simp
    · rw [Lib.keeps_pos h, if_neg h]
      simp
theorem compactUpTo_cmpct (l : List Int) : Lib.compactUpTo l.toArray l.toArray.size = cmpct l := by
  cases l with
  | nil => rfl
  | cons x r =>
    rw [compactUpTo_cmpF (x :: r).toArray r.length 0 (by simp; omega)]
    have h1 : Lib.compactUpTo (x :: r).toArray (0 + 1) = [x] := by
      rw [Lib.compactUpTo_succ, Lib.keeps_lt_one _ 0 (by omega)]
      simp [Lib.compactUpTo]
    rw [h1]
    simp [cmpct]

/-! ### On a row of the caller's own -/
def encU (x : Int) : List Value := [.int .u32 x]
theorem encU_len (x : Int) : (encU x).length = 1 := rfl
theorem encU_one (x : Int) : ∀ u ∈ encU x, u.oneCell' = true := by
  intro u hu
  rw [List.mem_singleton.1 hu]; rfl
abbrev OwnU (B : Nat) (v : Value) (l : List Int) (w : World) : Prop := Own encU 1 23 B v l w
theorem rowOf_encU (l : List Int) : rowOf encU l = l.map eU := by
  unfold rowOf encU
  induction l with
  | nil => rfl
  | cons x l ih => rw [List.flatMap_cons, ih]; rfl
theorem OwnU.holds {B g cap : Nat} {l : List Int} {w : World} (h : OwnU B (.slice (some ⟨g, 0, none⟩) l.length cap) l w) : Holds eU w g 0 l.toArray := by
  rcases h.2 with ⟨h1, _⟩ | ⟨g', cap', cur, hv, hb, hg, hn, hm, hs, ht⟩
  · cases h1
  · injection hv with h1 h2 h3
    injection h1 with h1
    injection h1 with h1
    subst h1; subst h3
    intro j hj
    have hj' : j < l.length := by simpa using hj
    have h2 : (cur.toList.take (l.length * 1))[j]? = some (eU l[j]) := by rw [ht, rowOf_encU, List.getElem?_map, List.getElem?_eq_getElem hj']; rfl
    rw [List.getElem?_take] at h2
    have h3 : cur[j]? = some (eU l[j]) := by
      split at h2
      · simpa using h2
      · cases h2
    have e : l.toArray[j]! = l[j] := by rw [getElem!_pos l.toArray j hj]; simp
    rw [e, Nat.zero_add]
    exact ⟨by simp [World.cell?, hg, h3], by simp [World.frozen?, hg]⟩
/-- The row, rewritten in place, and cut. -/
theorem OwnU.put {B g cap n : Nat} {l m z : List Int} {w w' : World} (h : OwnU B (.slice (some ⟨g, 0, none⟩) l.length cap) l w) (hU : UG w g 0 (m ++ z).toArray w') (hl : m.length + z.length = l.length) (hn : n = m.length) : OwnU B (.slice (some ⟨g, 0, none⟩) n cap) m w' := by
  subst hn
  rcases h.2 with ⟨h1, _⟩ | ⟨g', cap', cur, hv, hb, hg, hn, hm, hs, ht⟩
  · cases h1
  · injection hv with h1 h2 h3
    injection h1 with h1
    injection h1 with h1
    subst h1; subst h3
    have hk := hU.2
    rw [row_block, hg] at hk
    refine ⟨by rw [rowOf_length encU_len], .inr ⟨g, cap, putCells eU 0 (m ++ z).toArray cur, rfl, hb, hk, by omega, hm, by simp [putCells, hs], ?_⟩⟩
    rw [rowOf_encU, Nat.mul_one]
    apply List.ext_getElem?
    intro i
    rw [List.getElem?_take, List.getElem?_map]
    by_cases hi : i < m.length
    · rw [if_pos hi]
      have hic : i < cur.size := by omega
      have e : ((m ++ z).toArray)[i]! = m[i] := by
        rw [getElem!_pos _ i (by simp; omega)]
        simp [List.getElem_append_left hi]
      simp only [putCells, Array.getElem?_toList, Array.getElem?_mapIdx, Array.getElem?_eq_getElem hic, Option.map_some, List.getElem?_eq_getElem hi]
      rw [if_pos ⟨Nat.zero_le _, by simp; omega⟩, Nat.sub_zero, e]
    · rw [if_neg hi, List.getElem?_eq_none (by omega)]; rfl
end Go.Proofs.YtmngghglcgmkeaaGreatDoor

namespace Go.Proofs.YtmngghglcgmkeaaGreatDoor
open Go.RowKit Go.Sort

theorem u32Info : (Tryz.prog.info? 23).map (fun i => (i.zero, i.size, i.bytes)) = some (some (.int .u32 0), 1, 4) := by kernel_rfl
theorem newsU (x : Int) (w : World) : ∀ j u, (encU x)[j]? = some u → (w.alloc (.cells #[.int .u32 x] 23)).cell? ⟨w.heap.size, j, none⟩ = some u := by
  intro j u hu
  have h := Bk.new w 23 #[.int .u32 x]
  rw [h.cell]
  simpa [encU] using hu
theorem belowU {B : Nat} {w0 w w' : World} {v : Value} {l : List Int} (h : Below B w0 w) (hB : B ≤ w.heap.size) (ho : OwnU B v l w) (hg : w.grownBy w' v.ownBlock) : Below B w0 w' :=
  h.trans ⟨hg.os, hg.tape, hg.output, hg.size, fun i hi => hg.block i (by omega) (ho.far hi)⟩
theorem ownU_below {B : Nat} {w w' : World} {v : Value} {l : List Int} (ho : OwnU B v l w) (hb : Below w.heap.size w w') : OwnU B v l w' :=
  ho.none_ ⟨hb.os, hb.tape, hb.output, hb.size, fun i hi _ => hb.block i hi⟩
theorem ownU_base {B B' : Nat} {w : World} {v : Value} {l : List Int} (h : OwnU B v l w) (hB : B' ≤ B) : OwnU B' v l w := by
  rcases h with ⟨h1, h2⟩
  refine ⟨h1, ?_⟩
  rcases h2 with h0 | ⟨g, cap, cur, hv, hb, hr⟩
  · exact .inl h0
  · exact .inr ⟨g, cap, cur, hv, Nat.le_trans hB hb, hr⟩
theorem OwnU.lt_ {B g n cap : Nat} {l : List Int} {w : World} (h : OwnU B (.slice (some ⟨g, 0, none⟩) n cap) l w) : B ≤ g ∧ g < w.heap.size := Own.lt h rfl
theorem cmpF_len : ∀ (l : List Int) (x : Int), (cmpF x l).length ≤ l.length
  | [], _ => Nat.le_refl _
  | y :: r, x => by
    unfold cmpF
    split
    · have := cmpF_len r x; rw [List.length_cons]; omega
    · have := cmpF_len r y; rw [List.length_cons, List.length_cons]; omega
theorem cmpct_len (l : List Int) : (cmpct l).length ≤ l.length := by
  cases l with
  | nil => exact Nat.le_refl _
  | cons x r => have := cmpF_len r x; simp only [cmpct, List.length_cons]; omega
/-- The persons of known facts. -/
def pesL (X : List Kn) : List Int := X.filterMap fun x => if x.2.pe = 0 then none else some x.2.pe
def personsL (L : List Fa) : List Int := (pesL (forceL L)).foldl insU []
theorem pesL_take {X : List Kn} {k : Nat} {x : Kn} (h : X[k]? = some x) : pesL (X.take (k + 1)) = pesL (X.take k) ++ (if x.2.pe = 0 then [] else [x.2.pe]) := by
  unfold pesL
  rw [List.take_add_one, h, List.filterMap_append]
  congr 1
  by_cases h0 : x.2.pe = 0 <;> simp [h0]
theorem pesL_len (X : List Kn) : (pesL X).length ≤ X.length := List.length_filterMap_le _ _

end Go.Proofs.YtmngghglcgmkeaaGreatDoor

namespace Go.Proofs.YtmngghglcgmkeaaGreatDoor
open Go.RowKit Go.Sort

/-- Numbers of 32 bits in a slice. -/
def SlU (w : World) (A : Option Addr) (m : List Int) : Prop := m ≠ [] → ∃ b off, A = some ⟨b, off, none⟩ ∧ ∀ (i : Nat) (x : Int), m[i]? = some x → w.cell? ⟨b, off + i, none⟩ = some (.int .u32 x)
theorem OwnU.empty {W : World} {h B : Nat} (hE : Bk h 23 #[] W) (hb : B ≤ h) : OwnU B (.slice (some ⟨h, 0, none⟩) 0 0) [] W :=
  ⟨rfl, .inr ⟨h, 0, #[], rfl, hb, hE, Nat.le_refl _, by simp [maxLen], rfl, rfl⟩⟩
theorem SlU.one {W : World} {b : Nat} {x : Int} {t : TypeId} (h : Bk b t #[.int .u32 x] W) : SlU W (some ⟨b, 0, none⟩) [x] := by
  intro _
  refine ⟨b, 0, rfl, fun i y hy => ?_⟩
  have hi : i = 0 := by
    have := (List.getElem?_eq_some_iff.1 hy).1
    simp at this; omega
  subst hi
  have : y = x := by simpa using hy.symm
  subst this
  exact h.cell 0
/-- What shape a row of one's own has. -/
theorem OwnU.shape {B : Nat} {v : Value} {l : List Int} {w : World} (h : OwnU B v l w) : (v = .slice none 0 0 ∧ l = []) ∨ ∃ g cap, v = .slice (some ⟨g, 0, none⟩) l.length cap ∧ B ≤ g ∧ g < w.heap.size ∧ l.length ≤ cap ∧ ∀ (i : Nat) (x : Int), l[i]? = some x → w.cell? ⟨g, i, none⟩ = some (.int .u32 x) := by
  rcases h.2 with ⟨rfl, h0⟩ | ⟨g, cap, cur, rfl, hb, hg, hn, hm, hs, ht⟩
  · exact .inl ⟨rfl, List.length_eq_zero_iff.1 h0⟩
  · refine .inr ⟨g, cap, rfl, hb, h.lt_.2, hn, fun i x hx => ?_⟩
    have hi := (List.getElem?_eq_some_iff.1 hx).1
    have k := (h.holds i (by simpa using hi)).1
    rw [getElem!_pos l.toArray i (by simpa using hi), Nat.zero_add] at k
    have e : l.toArray[i]'(by simpa using hi) = x := by
      have := (List.getElem?_eq_some_iff.1 hx).2
      simpa using this
    rw [e] at k
    exact k
theorem SlU.take_ {w : World} {g off : Nat} {l : List Int} (h : ∀ (i : Nat) (x : Int), l[i]? = some x → w.cell? ⟨g, off + i, none⟩ = some (.int .u32 x)) (k : Nat) : SlU w (some ⟨g, off, none⟩) (l.take k) := fun _ => ⟨g, off, rfl, fun i x hx => h i x (by
  rw [List.getElem?_take] at hx
  split at hx
  · exact hx
  · cases hx)⟩
theorem SlU.drop_ {w : World} {g off : Nat} {l : List Int} (h : ∀ (i : Nat) (x : Int), l[i]? = some x → w.cell? ⟨g, off + i, none⟩ = some (.int .u32 x)) (k : Nat) : SlU w (some ⟨g, off + k, none⟩) (l.drop k) := fun _ => ⟨g, off + k, rfl, fun i x hx => by
  rw [List.getElem?_drop] at hx
  rw [Nat.add_assoc]
  exact h _ x hx⟩
theorem SlU.nil {w : World} {A : Option Addr} {l : List Int} (h : l = []) : SlU w A l := fun hl => absurd h hl
theorem SlU.below {w w' : World} {B : Nat} {A : Option Addr} {m : List Int} (h : SlU w A m) (hA : ∀ b off, A = some ⟨b, off, none⟩ → b < B) (hb : Below B w w') : SlU w' A m := fun hm => by
  obtain ⟨b, off, e, hc⟩ := h hm
  exact ⟨b, off, e, fun i x hx => (hb.cell (p := ⟨b, off + i, none⟩) (hA b off e)).trans (hc i x hx)⟩
end Go.Proofs.YtmngghglcgmkeaaGreatDoor

namespace Go.Proofs.YtmngghglcgmkeaaGreatDoor
open Go.RowKit Go.Sort

/-- Is a person to be put in? -/
def cB (l : List Int) (p : Int) : Bool := decide (p ≠ 0) && !(decide (l[lead l p]? = some p))
def addU (l : List Int) (p : Int) : List Int := if p = 0 then l else insU l p
theorem cB_no {l : List Int} {p : Int} (h : cB l p = false) : addU l p = l := by
  unfold addU
  split
  · rfl
  · rename_i h0
    rw [insU_at]
    rw [if_pos]
    simpa [cB, h0] using h
theorem cB_yes {l : List Int} {p : Int} (h : cB l p = true) : addU l p = l.take (lead l p) ++ [p] ++ l.drop (lead l p) := by
  have h2 : p ≠ 0 ∧ ¬ l[lead l p]? = some p := by simpa [cB] using h
  unfold addU
  rw [if_neg h2.1, insU_at, if_neg h2.2]
theorem pes_step {X : List Kn} {k : Nat} {x : Kn} (h : X[k]? = some x) : (pesL (X.take (k + 1))).foldl insU [] = addU ((pesL (X.take k)).foldl insU []) x.2.pe := by
  rw [pesL_take h, List.foldl_append]
  unfold addU
  split <;> rfl

/-- What stands behind the search for a person's place. -/
theorem app_one {B : Nat} {w6 : World} {v6 : Value} {l : List Int} (p : Int) (h : OwnU B v6 l w6) : OwnU B v6 l (w6.drew.alloc (.cells #[.int .u32 p] 23)) ∧ SlU (w6.drew.alloc (.cells #[.int .u32 p] 23)) (some ⟨w6.heap.size, 0, none⟩) [p] :=
  ⟨Own.alloc (w := w6.drew) h _, SlU.one (Bk.new w6.drew _ _)⟩

theorem bBase {B C : Nat} {w3 wr w8 : World} (h : B ≤ C) (k : Below B w3 wr) (m : Below C wr w8) : Below B w3 w8 := k.trans ⟨m.os, m.tape, m.output, m.size, fun i hi => m.block i (by omega)⟩
end Go.Proofs.YtmngghglcgmkeaaGreatDoor
