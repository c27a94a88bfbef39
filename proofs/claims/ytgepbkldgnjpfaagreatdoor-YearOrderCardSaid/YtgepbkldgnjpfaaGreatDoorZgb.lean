/- Out of: Thos StP Chgd Ya0 Ya1 Ya2 Ya3. -/
import Derived.Test.YtgepbkldgnjpfaaGreatDoorShG
import Derived.Test.YtgepbkldgnjpfaaGreatDoorZga
import Derived.Below
import Derived.BigQuiet
import Derived.Deep.Cut
import Derived.Deep.QuietTactic
import Derived.Deep.RegionHeld3
import Derived.Deep.RegionLaw
import Derived.Deep.RegionWith
import Derived.Deep.Upon
import Derived.DeepKeys4
import Derived.Laws.AppendOwn
import Derived.Laws.AppendOwnNone
import Derived.Laws.BitsLemmas
import Derived.Laws.CopyOwn
import Derived.Laws.OwnMore
import Derived.Laws.Rows
import Derived.Lib.Hide
import Derived.Maps.Keyed
import Derived.Maps.OwnOps
import Derived.Maps.OwnSet
import Derived.OwnWalk
import Derived.Shelf.SlSortCmp.QuietGrown
import Derived.WalkKit
/- Merged from: Row9 St9 St10 St11 St12. -/
/- Rows of elements of several cells; one element appended. (From StK's head and Own, for this seat.) -/
namespace Go.Proofs.YtgepbkldgnjpfaaGreatDoor
open Go.RowKit Go.Sort

def wrMany (cur : Array Value) (o : Nat) : List Value → Array Value
  | [] => cur
  | v :: r => wrMany (cur.setIfInBounds o v) (o + 1) r
theorem wrMany_size : ∀ (vs : List Value) (cur : Array Value) (o : Nat), (wrMany cur o vs).size = cur.size
  | [], _, _ => rfl
  | v :: r, cur, o => by rw [wrMany, wrMany_size r]; simp
theorem wrMany_get : ∀ (vs : List Value) (cur : Array Value) (o t : Nat), o + vs.length ≤ cur.size → (wrMany cur o vs)[t]? = if o ≤ t ∧ t < o + vs.length then vs[t - o]? else cur[t]?
  | [], cur, o, t, _ => by rw [wrMany, if_neg (by rw [List.length_nil]; omega)]
  | v :: r, cur, o, t, h => by
    rw [List.length_cons] at h
    rw [wrMany, wrMany_get r _ _ _ (by simp; omega)]
    by_cases h1 : o + 1 ≤ t ∧ t < o + 1 + r.length
    · rw [if_pos h1, if_pos (by rw [List.length_cons]; omega), show t - o = (t - (o + 1)) + 1 by omega, List.getElem?_cons_succ]
    · rw [if_neg h1]
      by_cases h2 : t = o
      · subst h2
        rw [if_pos (by rw [List.length_cons]; omega), Nat.sub_self, List.getElem?_cons_zero, Array.getElem?_setIfInBounds, if_pos rfl, if_pos (by omega)]
      · rw [if_neg (by rw [List.length_cons]; omega), Array.getElem?_setIfInBounds, if_neg (by omega)]
theorem heap_setCells {g : Nat} {e : TypeId} : ∀ (vs : List Value) (w : World) (cur : Array Value) (o : Nat), w.heap[g]? = some (.cells cur e (0, 0)) → (w.setCells g o vs).heap[g]? = some (.cells (wrMany cur o vs) e (0, 0))
  | [], _, _, _, h => h
  | v :: r, w, cur, o, h => by
    rw [World.setCells, wrMany]
    refine heap_setCells r _ _ _ ?_
    simp [World.setCell, Array.getElem?_modify, h]
theorem gTrans {g : Nat} {a b c : World} (h : a.grownBy b (some g)) (k : b.grownBy c (some g)) : a.grownBy c (some g) :=
  ⟨k.os.trans h.os, k.tape.trans h.tape, k.output.trans h.output, Nat.le_trans h.size k.size, fun i hi hn => (k.block i (Nat.lt_of_lt_of_le hi h.size) hn).trans (h.block i hi hn)⟩
theorem gDrew {g : Nat} {a b : World} (h : a.grownBy b (some g)) : a.grownBy b.drew (some g) := ⟨h.os, h.tape, h.output, h.size, h.block⟩
theorem grown_setCells {g : Nat} : ∀ (vs : List Value) (w : World) (o : Nat), w.grownBy (w.setCells g o vs) (some g)
  | [], w, _ => World.grownBy.refl _ _
  | v :: r, w, o => by
    rw [World.setCells]
    have h1 : w.grownBy (w.setCell ⟨g, o, none⟩ v) (some g) := ⟨rfl, rfl, rfl, by simp [World.setCell], fun k _ hk => Below.heap_setCell _ _ _ _ (by simpa using hk)⟩
    exact gTrans h1 (grown_setCells r _ _)

/-- Block g: a row of l's elements, k cells each. -/
def Rw {α : Type} (enc : α → List Value) (k : Nat) (e : TypeId) (g cap : Nat) (l : List α) (w : World) : Prop :=
  ∃ cur, w.heap[g]? = some (.cells cur e (0, 0)) ∧ cur.size = cap * k ∧ l.length ≤ cap ∧ ∀ i x, l[i]? = some x → ∀ j u, (enc x)[j]? = some u → cur[i * k + j]? = some u

section
variable {α : Type} {enc : α → List Value} {k : Nat} {e : TypeId} {g cap : Nat} {l : List α} {w w' : World}
theorem Rw.cell (h : Rw enc k e g cap l w) {i : Nat} {x : α} (hx : l[i]? = some x) {j : Nat} {u : Value} (hu : (enc x)[j]? = some u) : w.cell? ⟨g, i * k + j, none⟩ = some u := by
  obtain ⟨cur, hc, _, _, hh⟩ := h
  have := hh i x hx j u hu
  simp [World.cell?, hc, this]
theorem Rw.frozen (h : Rw enc k e g cap l w) (o : Nat) : w.frozen? ⟨g, o, none⟩ = false := by
  obtain ⟨cur, hc, _⟩ := h
  simp [World.frozen?, hc]
theorem Rw.lt (h : Rw enc k e g cap l w) : g < w.heap.size := by
  obtain ⟨cur, hc, _⟩ := h
  exact (Array.getElem?_eq_some_iff.1 hc).1
theorem Rw.drewN (h : Rw enc k e g cap l w) (n : Nat) : Rw enc k e g cap l (w.drewN n) := h
theorem Rw.below {B : Nat} (h : Rw enc k e g cap l w) (hb : Below B w w') (hg : g < B) : Rw enc k e g cap l w' := by
  obtain ⟨cur, hc, hr⟩ := h
  exact ⟨cur, (hb.block g hg).trans hc, hr⟩
theorem Rw.set_ (hk : ∀ x, (enc x).length = k) (h : Rw enc k e g cap l w) {i : Nat} (hi : i < l.length) (y : α) : Rw enc k e g cap (l.set i y) (w.setCells g (i * k) (enc y)) := by
  obtain ⟨cur, hc, hs, hl, hh⟩ := h
  have hb : i * k + k ≤ cur.size := by
    have := Nat.mul_le_mul_right k (show i + 1 ≤ cap by omega)
    rw [Nat.add_mul, Nat.one_mul] at this; omega
  refine ⟨_, heap_setCells _ _ _ _ hc, by rw [wrMany_size, hs], by simpa using hl, fun t x hx j u hu => ?_⟩
  have hj : j < k := by rw [← hk x]; exact (List.getElem?_eq_some_iff.1 hu).1
  rw [wrMany_get _ _ _ _ (by rw [hk]; exact hb), hk]
  rw [List.getElem?_set] at hx
  by_cases ht : i = t
  · subst ht
    rw [if_pos rfl, if_pos hi] at hx
    cases hx
    rw [if_pos (by omega), Nat.add_sub_cancel_left]
    exact hu
  · rw [if_neg ht] at hx
    rw [if_neg]
    · exact hh t x hx j u hu
    · rintro ⟨h1, h2⟩
      rcases Nat.lt_or_gt_of_ne ht with h3 | h3
      · have := Nat.mul_le_mul_right k (show i + 1 ≤ t from h3)
        rw [Nat.add_mul, Nat.one_mul] at this; omega
      · have := Nat.mul_le_mul_right k (show t + 1 ≤ i from h3)
        rw [Nat.add_mul, Nat.one_mul] at this; omega
end
theorem get_mid {α : Type} (P Q : List α) (x : α) {n : Nat} (h : P.length = n) : (P ++ x :: Q)[n]? = some x := by subst h; simp
theorem set_mid {α : Type} (P Q : List α) (x y : α) {n : Nat} (h : P.length = n) : (P ++ x :: Q).set n y = P ++ y :: Q := by subst h; simp
/-- The cells of elements. -/
def rowOf {α : Type} (enc : α → List Value) (l : List α) : List Value := l.flatMap enc
section
variable {α : Type} {enc : α → List Value} {k : Nat}
theorem rowOf_append (l m : List α) : rowOf enc (l ++ m) = rowOf enc l ++ rowOf enc m := List.flatMap_append
theorem rowOf_one (x : α) : rowOf enc [x] = enc x := by simp [rowOf]
theorem rowOf_length (hk : ∀ x, (enc x).length = k) (l : List α) : (rowOf enc l).length = l.length * k := by
  induction l with
  | nil => simp [rowOf]
  | cons x l ih =>
    have : rowOf enc (x :: l) = enc x ++ rowOf enc l := rfl
    rw [this, List.length_append, ih, hk, List.length_cons, Nat.add_mul]; omega
theorem rowOf_get (hk : ∀ x, (enc x).length = k) : ∀ (l : List α) (i : Nat) (x : α), l[i]? = some x → ∀ (j : Nat) (u : Value), (enc x)[j]? = some u → (rowOf enc l)[i * k + j]? = some u := by
  intro l
  induction l with
  | nil => intro i x h; simp at h
  | cons y l ih =>
    intro i x h j u hu
    have e : rowOf enc (y :: l) = enc y ++ rowOf enc l := rfl
    have hj : j < k := by rw [← hk x]; exact (List.getElem?_eq_some_iff.1 hu).1
    cases i with
    | zero =>
      cases h
      rw [e, List.getElem?_append_left (by rw [hk]; omega), Nat.zero_mul, Nat.zero_add]; exact hu
    | succ i =>
      rw [List.getElem?_cons_succ] at h
      rw [e, List.getElem?_append_right (by rw [hk, Nat.add_mul]; omega), hk, Nat.add_mul, show i * k + 1 * k + j - k = i * k + j by omega]
      exact ih i x h j u hu
end

/-- A slice value that owns a row of l's elements. -/
def Own {α : Type} (enc : α → List Value) (k : Nat) (e : TypeId) (base : Nat) (v : Value) (l : List α) (w : World) : Prop := w.ownsRow base e k v l.length (rowOf enc l)
section
variable {α : Type} {enc : α → List Value} {k : Nat} {e : TypeId} {base : Nat} {v : Value} {l : List α} {w w' : World}
theorem Own.nil (w : World) : Own enc k e base (.slice none 0 0) [] w := World.ownsRow_nil w base e k
theorem Own.kept {r : Option Nat} (h : Own enc k e base v l w) (hg : w.grownBy w' r) (hr : v.ownBlock = none ∨ v.ownBlock ≠ r) : Own enc k e base v l w' := World.ownsRow.kept h hg hr
theorem Own.none_ (h : Own enc k e base v l w) (hg : w.grownBy w' none) : Own enc k e base v l w' := h.kept hg (by cases v.ownBlock <;> simp)
theorem Own.alloc (h : Own enc k e base v l w) (o : Obj) : Own enc k e base v l (w.alloc o) := World.ownsRow.alloc h o
theorem Own.lt (h : Own enc k e base v l w) {b : Nat} (hb : v.ownBlock = some b) : base ≤ b ∧ b < w.heap.size := World.ownsRow.lt h b hb
theorem Own.far (h : Own enc k e base v l w) {b : Nat} (hb : b < base) : some b ≠ v.ownBlock := fun he => by have := (h.lt he.symm).1; omega
/-- It is a row of its own, if there is an element. -/
theorem Own.row (hk : ∀ x, (enc x).length = k) (h : Own enc k e base v l w) (hl : l ≠ []) : ∃ g cap, v = .slice (some ⟨g, 0, none⟩) l.length cap ∧ base ≤ g ∧ Rw enc k e g cap l w := by
  rcases h.2 with ⟨_, h0⟩ | ⟨g, cap, cur, hv, hb, hg, hn, _, hs, ht⟩
  · exact absurd (List.length_eq_zero_iff.1 h0) hl
  · refine ⟨g, cap, hv, hb, cur, hg, hs, hn, fun i x hx j u hu => ?_⟩
    have h1 := rowOf_get hk l i x hx j u hu
    have h2 : (cur.toList.take (l.length * k))[i * k + j]? = some u := by rw [ht]; exact h1
    rw [List.getElem?_take] at h2
    split at h2
    · simpa using h2
    · cases h2
theorem Own.ne_ {g : Nat} {t : TypeId} {cs : Array Value} (h : Own enc k e base v l w) (hg : Bk g t cs w) (hne : e ≠ t) : some g ≠ v.ownBlock := by
  rcases h.2 with ⟨rfl, _⟩ | ⟨g', cap, cur, rfl, _, hh, _⟩
  · simp [Value.ownBlock]
  · intro he
    have : g = g' := by simpa [Value.ownBlock] using he
    subst this
    exact Bk.ne_ (t := e) hh hg hne rfl
end

/-- One element more. -/
theorem wpList_append_row {α : Type} {enc : α → List Value} {k : Nat} {P : Program} {ops : Array Oper} {rest : List Oper} {o : Oper} {a : Act} {w : World} {Q : Exit → Act → World → Prop}
    (hk : ∀ x, (enc x).length = k) (h1 : ∀ x, ∀ u ∈ enc x, u.oneCell' = true) (hgd : o.guard = none) (s x : Operand) (t : TypeId)
    (ho : o.op = .call { callee := .builtin .append, args := #[s, x], argTypes := #[t, t] })
    (base : Nat) (e : TypeId) (z : Value) (bytes : Nat) (ht : P.underlying t = some (.slice e)) (hi : (P.info? e).map (fun i => (i.zero, i.size, i.bytes)) = some (some z, k, bytes)) (hzs : z.cells.size = k) (hsz : 0 < k)
    (v : Value) (l : List α) (y : α) (hs : a.eval s = v) (hown : Own enc k e base v l w)
    (b c : Nat) (hx : a.eval x = .slice (some ⟨b, 0, none⟩) 1 c) (hnews : ∀ j u, (enc y)[j]? = some u → w.cell? ⟨b, j, none⟩ = some u)
    (hn : l.length + 1 ≤ 1000000000) (hb : bytes ≤ 1000) (hbase : base ≤ w.heap.size)
    (h : ∀ v' w', Own enc k e base v' (l ++ [y]) w' → w.grownBy w' v.ownBlock → wpList P ops Q rest (a.put o.dst v') w') : wpList P ops Q (o :: rest) a w := by
  obtain ⟨i, hi1, hz, hsize, hby⟩ := info_parts hi
  refine wpList_append_own w hgd s x t ho base e i z k bytes ht hi1 hz hsize hby hzs hsz v l.length (rowOf enc l) hs hown ⟨b, 0, none⟩ 1 c (enc y) hx (by rw [hk]; omega) (fun j u hu => ?_) (h1 y) (by simp only [maxLen]; omega) ?_ hbase (fun v' w' h2 h3 _ => h v' w' ?_ h3)
  · have := hnews j u hu
    unfold Addr.add
    split
    · rename_i h0; subst h0; exact this
    · simpa using this
  · exact Nat.le_trans (Nat.mul_le_mul hn hb) (by omega)
  · unfold Own
    rw [List.length_append, rowOf_append, rowOf_one]; exact h2
end Go.Proofs.YtgepbkldgnjpfaaGreatDoor

/- The facts of a view that are in force. -/
namespace Go.Proofs.YtgepbkldgnjpfaaGreatDoor
open Go.RowKit Go.Sort

end Go.Proofs.YtgepbkldgnjpfaaGreatDoor

/- The facts in force of a view. -/
namespace Go.Proofs.YtgepbkldgnjpfaaGreatDoor
open Go.RowKit Go.Sort

end Go.Proofs.YtgepbkldgnjpfaaGreatDoor

/- The facts in force of a person and a kind. -/
namespace Go.Proofs.YtgepbkldgnjpfaaGreatDoor
open Go.RowKit Go.Sort

end Go.Proofs.YtgepbkldgnjpfaaGreatDoor

/- The facts in force of a person and a kind: Facts. -/
namespace Go.Proofs.YtgepbkldgnjpfaaGreatDoor
open Go.RowKit Go.Sort

end Go.Proofs.YtgepbkldgnjpfaaGreatDoor

/- The stable sort in plain lists: merges, the sort as a fold of merges, and the laws by which blocks that are merged come to it. -/
namespace Go.Proofs.YtgepbkldgnjpfaaGreatDoor
section
variable {α : Type} (lt : α → α → Bool)

/-- The stable merge: of the right one first only what is less. -/
def mg : List α → List α → List α
  | [], r => r
  | a :: l, [] => a :: l
  | a :: l, b :: r => if lt b a then b :: mg (a :: l) r else a :: mg l (b :: r)
termination_by l r => l.length + r.length

/-- The stable sort. -/
def ss : List α → List α
  | [] => []
  | x :: l => mg lt [x] (ss l)

/-- A strict weak order. -/
structure Swk : Prop where
  asym : ∀ x y, lt x y = true → lt y x = false
  tr : ∀ x y z, lt y x = false → lt z y = false → lt z x = false

/-- No later one is less than an earlier one. -/
def Srt (l : List α) : Prop := l.Pairwise fun x y => lt y x = false

variable {lt}
@[simp] theorem mg_nil (r : List α) : mg lt [] r = r := by unfold mg; rfl
@[simp] theorem nil_mg (l : List α) : mg lt l [] = l := by cases l <;> (unfold mg; rfl)
theorem mg_cons (a b : α) (l r : List α) : mg lt (a :: l) (b :: r) = if lt b a then b :: mg lt (a :: l) r else a :: mg lt l (b :: r) := by
  conv => lhs; unfold mg
theorem mg_perm : ∀ l r : List α, (mg lt l r).Perm (l ++ r)
  | [], r => by simp
  | a :: l, [] => by simp
  | a :: l, b :: r => by
    rw [mg_cons]
    split
    · exact ((mg_perm (a :: l) r).cons b).trans (List.perm_middle.symm)
    · exact (mg_perm l (b :: r)).cons a
termination_by l r => l.length + r.length
theorem ss_perm : ∀ l : List α, (ss lt l).Perm l
  | [] => List.Perm.refl _
  | x :: l => (mg_perm [x] (ss lt l)).trans ((ss_perm l).cons x)
theorem mg_length (l r : List α) : (mg lt l r).length = l.length + r.length := by rw [(mg_perm l r).length_eq, List.length_append]
theorem ss_length (l : List α) : (ss lt l).length = l.length := (ss_perm l).length_eq
theorem mg_mem {l r : List α} {x : α} : x ∈ mg lt l r ↔ x ∈ l ∨ x ∈ r := by rw [(mg_perm l r).mem_iff, List.mem_append]

theorem srt_mg (h : Swk lt) : ∀ {l r : List α}, Srt lt l → Srt lt r → Srt lt (mg lt l r)
  | [], r, _, hr => by simpa
  | a :: l, [], hl, _ => by simpa
  | a :: l, b :: r, hl, hr => by
    rw [mg_cons]
    have hl' := List.pairwise_cons.1 hl
    have hr' := List.pairwise_cons.1 hr
    split
    · rename_i hba
      refine List.pairwise_cons.2 ⟨fun x hx => ?_, srt_mg h hl hr'.2⟩
      rcases mg_mem.1 hx with hx | hx
      · rcases List.mem_cons.1 hx with rfl | hx
        · exact h.asym _ _ hba
        · exact h.tr b a x (h.asym _ _ hba) (hl'.1 x hx)
      · exact hr'.1 x hx
    · rename_i hba
      have hba : lt b a = false := by simpa using hba
      refine List.pairwise_cons.2 ⟨fun x hx => ?_, srt_mg h hl'.2 hr⟩
      rcases mg_mem.1 hx with hx | hx
      · exact hl'.1 x hx
      · rcases List.mem_cons.1 hx with rfl | hx
        · exact hba
        · exact h.tr a b x hba (hr'.1 x hx)
termination_by l r => l.length + r.length
theorem srt_ss (h : Swk lt) : ∀ l : List α, Srt lt (ss lt l)
  | [] => List.Pairwise.nil
  | _ :: l => srt_mg h (List.pairwise_singleton _ _) (srt_ss h l)

theorem mg_assoc (h : Swk lt) : ∀ A B C : List α, mg lt (mg lt A B) C = mg lt A (mg lt B C)
  | [], B, C => by simp
  | a :: A, [], C => by simp
  | a :: A, b :: B, [] => by simp
  | a :: A, b :: B, c :: C => by
    have h1 := mg_assoc h (a :: A) B (c :: C)
    have h2 := mg_assoc h A (b :: B) (c :: C)
    have h3 := mg_assoc h (a :: A) (b :: B) C
    rw [mg_cons a b A B, mg_cons b c B C] at *
    by_cases hba : lt b a = true
    · rw [if_pos hba] at *
      by_cases hcb : lt c b = true
      · have hca : lt c a = true := by
          cases hx : lt c a with
          | true => rfl
          | false =>
            have h4 : lt b a = false := h.tr _ _ _ hx (h.asym _ _ hcb)
            rw [h4] at hba; cases hba
        rw [if_pos hcb] at *
        rw [mg_cons, if_pos hcb, mg_cons a c, if_pos hca, h3]
      · rw [if_neg hcb] at *
        rw [mg_cons, if_neg hcb, mg_cons a b, if_pos hba, h1]
    · rw [if_neg hba] at *
      by_cases hcb : lt c b = true
      · rw [if_pos hcb] at *
        by_cases hca : lt c a = true
        · rw [mg_cons, if_pos hca, mg_cons a c, if_pos hca, h3]
        · rw [mg_cons, if_neg hca, mg_cons a c, if_neg hca, h2]
      · rw [if_neg hcb] at *
        have hca : ¬ lt c a = true := by
          have h4 := h.tr a b c (by simpa using hba) (by simpa using hcb)
          simp [h4]
        rw [mg_cons, if_neg hca, mg_cons a b, if_neg hba, h2]
termination_by A B C => A.length + B.length + C.length

theorem mg_ss (h : Swk lt) : ∀ l r : List α, mg lt (ss lt l) (ss lt r) = ss lt (l ++ r)
  | [], r => by simp [ss]
  | x :: l, r => by
    show mg lt (mg lt [x] (ss lt l)) (ss lt r) = mg lt [x] (ss lt (l ++ r))
    rw [mg_assoc h, mg_ss h l r]
theorem ss_one (x : α) : ss lt [x] = [x] := by simp [ss]
theorem ss_snoc (h : Swk lt) (l : List α) (x : α) : mg lt (ss lt l) [x] = ss lt (l ++ [x]) := by rw [← mg_ss h, ss_one]

/-- Two that are cut so that no front part holds what must come behind the other's back part. -/
theorem mg_split : ∀ (L1 L2 R1 R2 : List α), (∀ x ∈ L1, ∀ y ∈ R2, lt y x = false) → (∀ y ∈ R1, ∀ x ∈ L2, lt y x = true) → mg lt (L1 ++ L2) (R1 ++ R2) = mg lt L1 R1 ++ mg lt L2 R2
  | [], L2, [], R2, _, _ => by simp
  | [], [], r :: R1, R2, _, _ => by simp
  | [], x :: L2, r :: R1, R2, h1, h2 => by
    have h3 := mg_split [] (x :: L2) R1 R2 h1 (fun y hy => h2 y (List.mem_cons_of_mem _ hy))
    simp only [List.nil_append, mg_nil, List.cons_append] at h3 ⊢
    rw [mg_cons, if_pos (h2 r (by simp) x (by simp)), h3]
  | x :: L1, L2, [], [], h1, h2 => by simp
  | x :: L1, L2, [], r :: R2, h1, h2 => by
    have h3 := mg_split L1 L2 [] (r :: R2) (fun y hy => h1 y (List.mem_cons_of_mem _ hy)) h2
    simp only [List.nil_append, nil_mg, List.cons_append] at h3 ⊢
    rw [mg_cons, if_neg (by simp [h1 x (by simp) r (by simp)]), h3]
  | x :: L1, L2, r :: R1, R2, h1, h2 => by
    simp only [List.cons_append]
    rw [mg_cons, mg_cons]
    split
    · have h3 := mg_split (x :: L1) L2 R1 R2 h1 (fun y hy => h2 y (List.mem_cons_of_mem _ hy))
      simp only [List.cons_append] at h3
      rw [h3]; rfl
    · have h3 := mg_split L1 L2 (r :: R1) R2 (fun y hy => h1 y (List.mem_cons_of_mem _ hy)) h2
      simp only [List.cons_append] at h3
      rw [h3]; rfl
termination_by L1 _ R1 _ => L1.length + R1.length

/-- Blocks of s, each sorted. -/
def blks (lt : α → α → Bool) (s : Nat) (l : List α) : List α :=
  if _h : s = 0 ∨ l = [] then l else ss lt (l.take s) ++ blks lt s (l.drop s)
termination_by l.length
decreasing_by
  have : 0 < l.length := List.length_pos_iff.2 (fun h0 => _h (Or.inr h0))
  simp only [List.length_drop]; omega
theorem blks_nil (s : Nat) : blks lt s [] = [] := by unfold blks; simp
theorem blks_le {s : Nat} {l : List α} (hs : 0 < s) (h : l.length ≤ s) : blks lt s l = ss lt l := by
  unfold blks
  split
  · rename_i h0
    rcases h0 with h0 | rfl
    · omega
    · rfl
  · rw [List.take_of_length_le h, List.drop_of_length_le h, blks_nil, List.append_nil]
theorem blks_cons {s : Nat} {c l : List α} (hs : 0 < s) (h : c.length = s) : blks lt s (c ++ l) = ss lt c ++ blks lt s l := by
  conv => lhs; unfold blks
  have h1 : ¬ (s = 0 ∨ c ++ l = []) := by
    rintro (h0 | h0)
    · omega
    · have h2 := congrArg List.length h0
      rw [List.length_append, List.length_nil] at h2; omega
  rw [dif_neg h1, ← h, List.take_left, List.drop_left]
theorem blks_append {s : Nat} (hs : 0 < s) : ∀ (n : Nat) (c l : List α), c.length = n * s → blks lt s (c ++ l) = blks lt s c ++ blks lt s l
  | 0, c, l, h => by
    have : c = [] := List.length_eq_zero_iff.1 (by simpa using h)
    subst this; simp [blks_nil]
  | n + 1, c, l, h => by
    have hl : s ≤ c.length := by rw [h, Nat.add_mul]; omega
    have e : c = c.take s ++ c.drop s := (List.take_append_drop s c).symm
    have h1 : (c.take s).length = s := by rw [List.length_take]; omega
    have h2 : (c.drop s).length = n * s := by rw [List.length_drop, h, Nat.add_mul]; omega
    rw [e, List.append_assoc, blks_cons hs h1, blks_cons hs h1, blks_append hs n _ l h2, List.append_assoc]
theorem blks_length (s : Nat) (l : List α) : (blks lt s l).length = l.length := by
  unfold blks
  split
  · rfl
  · rename_i h0
    have : 0 < l.length := List.length_pos_iff.2 (fun h => h0 (Or.inr h))
    rw [List.length_append, ss_length, blks_length s (l.drop s), ← List.length_append, List.take_append_drop]
termination_by l.length
decreasing_by simp only [List.length_drop]; omega
end
end Go.Proofs.YtgepbkldgnjpfaaGreatDoor

/- Merged from: St20 St21 Pl1 St22. -/
/- The known facts of a list that are not in another one. -/
namespace Go.Proofs.YtgepbkldgnjpfaaGreatDoor
open Go.RowKit Go.Sort Go.WideMaps Go.Maps Go.WideElems

end Go.Proofs.YtgepbkldgnjpfaaGreatDoor

/- slices.SortStableFunc at known facts: short slices stay; the contract of the others under one name; a row of the call's own, sorted; one row appended to another. -/
namespace Go.Proofs.YtgepbkldgnjpfaaGreatDoor
open Go.RowKit Go.Sort

/-- A row of one's own behind another one. -/
theorem wpList_append_rows {α : Type} {enc : α → List Value} {k : Nat} {P : Program} {ops : Array Oper} {rest : List Oper} {o : Oper} {a : Act} {w : World} {Q : Exit → Act → World → Prop}
    (hk : ∀ x, (enc x).length = k) (h1 : ∀ x, ∀ u ∈ enc x, u.oneCell' = true) (hgd : o.guard = none) (s x : Operand) (t : TypeId)
    (ho : o.op = .call { callee := .builtin .append, args := #[s, x], argTypes := #[t, t] })
    (base base2 : Nat) (e : TypeId) (z : Value) (bytes : Nat) (ht : P.underlying t = some (.slice e)) (hi : (P.info? e).map (fun i => (i.zero, i.size, i.bytes)) = some (some z, k, bytes)) (hzs : z.cells.size = k) (hsz : 0 < k)
    (v v2 : Value) (l m : List α) (hs : a.eval s = v) (hown : Own enc k e base v l w) (hx : a.eval x = v2) (hown2 : Own enc k e base2 v2 m w)
    (hn : l.length + m.length ≤ 1000000000) (hb : bytes ≤ 1000) (hbase : base ≤ w.heap.size)
    (h : ∀ v' w', Own enc k e base v' (l ++ m) w' → w.grownBy w' v.ownBlock → wpList P ops Q rest (a.put o.dst v') w') : wpList P ops Q (o :: rest) a w := by
  obtain ⟨i, hi1, hz, hsize, hby⟩ := info_parts hi
  rcases hown2.2 with ⟨rfl, h0⟩ | ⟨g, cap, cur, rfl, hb2, hg, hn0, hcm, hcs, htk⟩
  · obtain rfl : m = [] := List.length_eq_zero_iff.1 h0
    rw [List.append_nil] at h
    exact wpList_append_own_none hgd s x t ho base e i k ht hi1 v l.length (rowOf enc l) hs hown hx (h v w hown (World.grownBy.refl _ _))
  · refine wpList_append_own w hgd s x t ho base e i z k bytes ht hi1 hz hsize hby hzs hsz v l.length (rowOf enc l) hs hown ⟨g, 0, none⟩ m.length cap (rowOf enc m) hx (rowOf_length hk m) (fun j u hu => ?_) (fun u hu => ?_) (by simp only [maxLen]; omega) ?_ hbase (fun v' w' h2 h3 _ => h v' w' ?_ h3)
    · have h2 : (cur.toList.take (m.length * k))[j]? = some u := by rw [htk]; exact hu
      rw [List.getElem?_take] at h2
      have h3 : cur[j]? = some u := by
        split at h2
        · simpa using h2
        · cases h2
      have h4 : w.cell? ⟨g, j, none⟩ = some u := by simp [World.cell?, hg, h3]
      unfold Addr.add
      split
      · rename_i h0; subst h0; exact h4
      · simpa using h4
    · obtain ⟨y, _, hy⟩ := List.mem_flatMap.1 hu
      exact h1 y u hy
    · exact Nat.le_trans (Nat.mul_le_mul hn hb) (by omega)
    · unfold Own
      rw [List.length_append, rowOf_append]; exact h2
end Go.Proofs.YtgepbkldgnjpfaaGreatDoor

/- The plain laws of the store: what is told stays; views; imports again; cancels. -/
namespace Go.Proofs.YtgepbkldgnjpfaaGreatDoor
open Go.RowKit Go.Sort

section
variable {L : List Fa} {f : Fa}
end
end Go.Proofs.YtgepbkldgnjpfaaGreatDoor

/- What is in force in just one of two views: Changed. -/
namespace Go.Proofs.YtgepbkldgnjpfaaGreatDoor
open Go.RowKit Go.Sort

end Go.Proofs.YtgepbkldgnjpfaaGreatDoor

/- Numbers of 64 bits: what math/bits.Div64 reckons with. -/
namespace Go.Proofs.YtgepbkldgnjpfaaGreatDoor

theorem wrap_u64n (n : Nat) (h : n < 18446744073709551616) : IntKind.u64.wrap (n : Int) = (n : Int) := by rw [IntKind.wrap_u64]; omega
theorem or_u64 (a b : Nat) (ha : a * 17592186044416 < 18446744073709551616) (hb : b < 17592186044416) : bits .or .u64 ((a : Int) * 17592186044416) (b : Int) = ((a * 17592186044416 + b : Nat) : Int) := by
  have h := (bits_nat .u64 64 (by decide) (fun n h0 h1 => by rw [IntKind.wrap_u64]; omega) (a * 17592186044416) b (by omega) (by omega)).2
  rw [show ((a : Int) * 17592186044416) = ((a * 17592186044416 : Nat) : Int) by simp, h]
  congr 1
  have h2 := Nat.shiftLeft_add_eq_or_of_lt (i := 44) (b := b) (by omega) a
  rw [Nat.shiftLeft_eq] at h2
  exact h2.symm
theorem and_u64 (x : Nat) (h : x < 18446744073709551616) : bits .and .u64 (x : Int) 4294967295 = ((x % 4294967296 : Nat) : Int) := by
  have h := bits_mask .u64 64 (by decide) (fun n h0 h1 => by rw [IntKind.wrap_u64]; omega) 32 (by decide) (x : Int) (by omega) (by omega)
  rw [show ((2 : Int) ^ 32 - 1) = 4294967295 by decide, show ((2 : Int) ^ 32) = 4294967296 by decide] at h
  rw [h]
  omega
theorem and_y : bits .and .u64 17592186044416000000 4294967295 = 0 := by
  have h := and_u64 17592186044416000000 (by decide)
  exact h
theorem or_n (hi lo : Nat) (h1 : hi ≤ 524288) (h2 : lo < 18446744073709551616) : bits .or .u64 ((hi : Int) * 17592186044416) ((lo : Int) / 1048576) = ((hi * 17592186044416 + lo / 1048576 : Nat) : Int) := by
  rw [show ((lo : Int) / 1048576) = ((lo / 1048576 : Nat) : Int) by simp, or_u64 hi (lo / 1048576) (by omega) (by omega)]
/-- The parts of a division by a million, as Div64 takes it. -/
structure DvA (hi lo u L q1 r1 n1 n0 q0 r0 : Nat) : Prop where
  hu : hi * 17592186044416 + lo / 1048576 = u
  hL : lo * 17592186044416 % 18446744073709551616 = L
  hq1 : u / 4096000000 = q1
  hr1 : u % 4096000000 = r1
  hn1 : L / 4294967296 = n1
  hn0 : L % 4294967296 = n0
  hq0 : (r1 * 4294967296 + n1) / 4096000000 = q0
  hr0 : (r1 * 4294967296 + n1) % 4096000000 = r0
theorem DvA.q {hi lo u L q1 r1 n1 n0 q0 r0 : Nat} (h : DvA hi lo u L q1 r1 n1 n0 q0 r0) : (hi * 18446744073709551616 + lo) / 1000000 = q1 * 4294967296 + q0 ∧ (hi * 18446744073709551616 + lo) % 1000000 = (r0 * 4294967296 + n0) / 17592186044416 := by
  obtain ⟨h3, h4, h5, h6, h7, h8, h9, h10⟩ := h
  omega
theorem DvA.bd {hi lo u L q1 r1 n1 n0 q0 r0 : Nat} (h : DvA hi lo u L q1 r1 n1 n0 q0 r0) (h1 : hi ≤ 524288) (h2 : lo < 18446744073709551616) : u < 18446744073709551616 ∧ L < 18446744073709551616 ∧ q1 < 4294967296 ∧ r1 < 4096000000 ∧ n1 < 4294967296 ∧ n0 < 4294967296 ∧ q0 < 4294967296 ∧ r0 < 4096000000 := by
  have a1 : u < 9223372036854775808 + 17592186044416 := by rw [← h.hu]; omega
  have a2 : L < 18446744073709551616 := by rw [← h.hL]; exact Nat.mod_lt _ (by decide)
  have a3 : q1 < 4294967296 := by rw [← h.hq1]; omega
  have a4 : r1 < 4096000000 := by rw [← h.hr1]; exact Nat.mod_lt _ (by decide)
  have a5 : n1 < 4294967296 := by rw [← h.hn1]; omega
  have a6 : n0 < 4294967296 := by rw [← h.hn0]; exact Nat.mod_lt _ (by decide)
  have a7 : q0 < 4294967296 := by rw [← h.hq0]; omega
  have a8 : r0 < 4096000000 := by rw [← h.hr0]; exact Nat.mod_lt _ (by decide)
  exact ⟨by omega, a2, a3, a4, a5, a6, a7, a8⟩
theorem wrap_s (a b : Int) : IntKind.u64.wrap (IntKind.u64.wrap a + b) = IntKind.u64.wrap (a + b) := by rw [IntKind.wrap_u64, IntKind.wrap_u64, IntKind.wrap_u64]; omega
theorem wrap_d (a b : Int) : IntKind.u64.wrap (IntKind.u64.wrap a - IntKind.u64.wrap b) = IntKind.u64.wrap (a - b) := by rw [IntKind.wrap_u64, IntKind.wrap_u64, IntKind.wrap_u64, IntKind.wrap_u64]; omega
theorem wrap_is (a : Int) : ∃ n : Nat, IntKind.u64.wrap a = (n : Int) := by
  rw [IntKind.wrap_u64]
  exact ⟨(a % 18446744073709551616).toNat, by omega⟩
/-- What the walk meets, step by step. -/
structure DvE (hi lo u L q1 r1 n1 n0 q0 r0 x0 x1 x2 x3 y0 y1 y2 y3 y4 z0 z1 z2 z3 z4 z5 z6 z7 z8 z9 : Nat) : Prop where
  f0 : IntKind.u64.wrap ((hi : Int) * 17592186044416) = (x0 : Int)
  e2 : bits .or .u64 (x0 : Int) ((lo : Int) / 1048576) = (u : Int)
  e3 : IntKind.u64.wrap ((lo : Int) * 17592186044416) = (L : Int)
  e4 : bits .and .u64 (L : Int) 4294967295 = (n0 : Int)
  e5 : IntKind.u64.wrap ((u : Int).tdiv 4096000000) = (q1 : Int)
  e6 : IntKind.u64.wrap ((q1 : Int) * 4096000000) = (x1 : Int)
  e7 : IntKind.u64.wrap ((u : Int) - (x1 : Int)) = (r1 : Int)
  e8 : (L : Int) / 4294967296 = (n1 : Int)
  f1 : IntKind.u64.wrap (4294967296 * (r1 : Int)) = (x2 : Int)
  f2 : IntKind.u64.wrap ((x2 : Int) + (n1 : Int)) = (x3 : Int)
  g1 : IntKind.u64.wrap ((u : Int) * 4294967296) = (y0 : Int)
  g2 : IntKind.u64.wrap ((y0 : Int) + (n1 : Int)) = (y1 : Int)
  g3 : IntKind.u64.wrap ((q1 : Int) * 17592186044416000000) = (y2 : Int)
  g4 : IntKind.u64.wrap ((y1 : Int) - (y2 : Int)) = (y3 : Int)
  g5 : IntKind.u64.wrap ((y3 : Int).tdiv 4096000000) = (q0 : Int)
  g6 : IntKind.u64.wrap ((q0 : Int) * 4096000000) = (y4 : Int)
  g7 : IntKind.u64.wrap ((y3 : Int) - (y4 : Int)) = (r0 : Int)
  h1 : IntKind.u64.wrap (4294967296 * (r0 : Int)) = (z0 : Int)
  h2 : IntKind.u64.wrap ((z0 : Int) + (n0 : Int)) = (z1 : Int)
  h3 : IntKind.u64.wrap ((q1 : Int) * 4294967296) = (z2 : Int)
  h4 : IntKind.u64.wrap ((z2 : Int) + (q0 : Int)) = (z3 : Int)
  h5 : IntKind.u64.wrap ((y3 : Int) * 4294967296) = (z4 : Int)
  h6 : IntKind.u64.wrap ((z4 : Int) + (n0 : Int)) = (z5 : Int)
  h7 : IntKind.u64.wrap ((q0 : Int) * 17592186044416000000) = (z6 : Int)
  h8 : IntKind.u64.wrap ((z5 : Int) - (z6 : Int)) = (z7 : Int)
  h9 : (z7 : Int) / 17592186044416 = (z8 : Int)
  r : z3 = (hi * 18446744073709551616 + lo) / 1000000 ∧ z8 = (hi * 18446744073709551616 + lo) % 1000000 ∧ z9 = 0
  b : q1 < 4294967296 ∧ q0 < 4294967296
theorem DvA.e {hi lo u L q1 r1 n1 n0 q0 r0 : Nat} (h : DvA hi lo u L q1 r1 n1 n0 q0 r0) (k1 : hi ≤ 524288) (k2 : lo < 18446744073709551616) : ∃ x0 x1 x2 x3 y0 y1 y2 y3 y4 z0 z1 z2 z3 z4 z5 z6 z7 z8 z9, DvE hi lo u L q1 r1 n1 n0 q0 r0 x0 x1 x2 x3 y0 y1 y2 y3 y4 z0 z1 z2 z3 z4 z5 z6 z7 z8 z9 := by
  obtain ⟨b1, b2, b3, b4, b5, b6, b7, b8⟩ := h.bd k1 k2
  have h5 := h.hq1
  have h6 := h.hr1
  have h7 := h.hq0
  have h8 := h.hr0
  obtain ⟨v, hv⟩ : ∃ v, r1 * 4294967296 + n1 = v := ⟨_, rfl⟩
  rw [hv] at h7 h8
  have d1 := Nat.div_add_mod u 4096000000
  rw [h5, h6] at d1
  have d2 := Nat.div_add_mod v 4096000000
  rw [h7, h8] at d2
  have hv2 : v < 18446744073709551616 := by omega
  obtain ⟨x2, f1⟩ := wrap_is (4294967296 * (r1 : Int))
  obtain ⟨x3, f2⟩ := wrap_is ((x2 : Int) + (n1 : Int))
  obtain ⟨y0, g1⟩ := wrap_is ((u : Int) * 4294967296)
  obtain ⟨y1, g2⟩ := wrap_is ((y0 : Int) + (n1 : Int))
  obtain ⟨y2, g3⟩ := wrap_is ((q1 : Int) * 17592186044416000000)
  obtain ⟨z0, i1⟩ := wrap_is (4294967296 * (r0 : Int))
  obtain ⟨z1, i2⟩ := wrap_is ((z0 : Int) + (n0 : Int))
  obtain ⟨z4, i5⟩ := wrap_is ((v : Int) * 4294967296)
  obtain ⟨z5, i6⟩ := wrap_is ((z4 : Int) + (n0 : Int))
  obtain ⟨z6, i7⟩ := wrap_is ((q0 : Int) * 17592186044416000000)
  have hq := h.q
  refine ⟨hi * 17592186044416, q1 * 4096000000, x2, x3, y0, y1, y2, v, q0 * 4096000000, z0, z1, q1 * 4294967296, q1 * 4294967296 + q0, z4, z5, z6, r0 * 4294967296 + n0, (r0 * 4294967296 + n0) / 17592186044416, 0, ?_, ?_, ?_, ?_, ?_, ?_, ?_, ?_, f1, f2, g1, g2, g3, ?_, ?_, ?_, ?_, i1, i2, ?_, ?_, i5, i6, i7, ?_, ?_, ⟨hq.1.symm, hq.2.symm, rfl⟩, ⟨b3, b7⟩⟩
  · clear f1 f2 g1 g2 g3 i1 i2 i5 i6 i7 hq
    rw [show ((hi : Int) * 17592186044416) = ((hi * 17592186044416 : Nat) : Int) by simp]
    exact wrap_u64n _ (by omega)
  · rw [show ((hi * 17592186044416 : Nat) : Int) = (hi : Int) * 17592186044416 by simp, or_n hi lo k1 k2, h.hu]
  · clear f1 f2 g1 g2 g3 i1 i2 i5 i6 i7 hq h5 h6 h7 h8 d1 d2 hv b1 b2 b3 b4 b5 b6 b7 b8
    rw [IntKind.wrap_u64, ← h.hL]
    omega
  · rw [and_u64 L b2, h.hn0]
  · clear f1 f2 g1 g2 g3 i1 i2 i5 i6 i7 hq
    rw [Int.tdiv_eq_ediv_of_nonneg (by omega), show ((u : Int) / 4096000000) = ((u / 4096000000 : Nat) : Int) by simp, h5]
    exact wrap_u64n q1 (by omega)
  · clear f1 f2 g1 g2 g3 i1 i2 i5 i6 i7 hq
    rw [show ((q1 : Int) * 4096000000) = ((q1 * 4096000000 : Nat) : Int) by simp]
    exact wrap_u64n _ (by omega)
  · clear f1 f2 g1 g2 g3 i1 i2 i5 i6 i7 hq
    rw [show ((u : Int) - ((q1 * 4096000000 : Nat) : Int)) = ((r1 : Nat) : Int) by omega]
    exact wrap_u64n _ (by omega)
  · rw [← h.hn1]; simp
  · rw [← g2, ← g3, ← g1, wrap_s, wrap_d]
    clear f1 f2 g1 g2 g3 i1 i2 i5 i6 i7 hq
    rw [show ((u : Int) * 4294967296 + (n1 : Int) - (q1 : Int) * 17592186044416000000) = ((v : Nat) : Int) by omega]
    exact wrap_u64n _ hv2
  · clear f1 f2 g1 g2 g3 i1 i2 i5 i6 i7 hq
    rw [Int.tdiv_eq_ediv_of_nonneg (by omega), show ((v : Int) / 4096000000) = ((v / 4096000000 : Nat) : Int) by simp, h7]
    exact wrap_u64n q0 (by omega)
  · clear f1 f2 g1 g2 g3 i1 i2 i5 i6 i7 hq
    rw [show ((q0 : Int) * 4096000000) = ((q0 * 4096000000 : Nat) : Int) by simp]
    exact wrap_u64n _ (by omega)
  · clear f1 f2 g1 g2 g3 i1 i2 i5 i6 i7 hq
    rw [show ((v : Int) - ((q0 * 4096000000 : Nat) : Int)) = ((r0 : Nat) : Int) by omega]
    exact wrap_u64n _ (by omega)
  · clear f1 f2 g1 g2 g3 i1 i2 i5 i6 i7 hq
    rw [show ((q1 : Int) * 4294967296) = ((q1 * 4294967296 : Nat) : Int) by simp]
    exact wrap_u64n _ (by omega)
  · clear f1 f2 g1 g2 g3 i1 i2 i5 i6 i7 hq
    rw [show (((q1 * 4294967296 : Nat) : Int) + (q0 : Int)) = ((q1 * 4294967296 + q0 : Nat) : Int) by simp]
    exact wrap_u64n _ (by omega)
  · rw [← i6, ← i7, ← i5, wrap_s, wrap_d]
    clear f1 f2 g1 g2 g3 i1 i2 i5 i6 i7 hq
    rw [show ((v : Int) * 4294967296 + (n0 : Int) - (q0 : Int) * 17592186044416000000) = ((r0 * 4294967296 + n0 : Nat) : Int) by omega]
    exact wrap_u64n _ (by omega)
  · simp
end Go.Proofs.YtgepbkldgnjpfaaGreatDoor

/- rate.Of, of what is not below 0, to the half: math/bits.Div64 by a million. -/
namespace Go.Proofs.YtgepbkldgnjpfaaGreatDoor
open Go.RowKit Go.Sort

set_option maxHeartbeats 400000 in
set_option maxRecDepth 100000 in
theorem b_Div64 (hi lo : Nat) (w : World) (h1 : hi ≤ 524288) (h2 : lo < 18446744073709551616) :
    Calls Tryz.prog 190 #[.int .u64 hi, .int .u64 lo, .int .u64 1000000] w fun e w' => e = .returned (.tuple #[.int .u64 ((hi * 18446744073709551616 + lo) / 1000000 : Nat), .int .u64 ((hi * 18446744073709551616 + lo) % 1000000 : Nat)]) ∧ Below w.heap.size w w' := by
  have HLZ := Lib.hid (fun W => Tryz.bits_LeadingZeros64 1000000 W (by decide) (by decide))
  go_enter Tryz.func190, Tryz.ntmps190
  by_cases hz : hi = 0
  · subst hz
    go_upto_region 6 with fail
    go_quiet (fail)
    rename_i nq
    have HF : Hid (Below w.heap.size w (w.drewN nq)) := Lib.hid (bDrewN w nq)
    go_wp2
    go_ret2
    exact ⟨by rw [Nat.zero_mul, Nat.zero_add, Int.natCast_ediv, Int.natCast_emod]; rfl, HF.out⟩
  · have hz2 : ((hi : Int) == 0) = false := beq_eq_false_iff_ne.2 (by omega)
    have hz3 : ¬ (1000000 : Int) ≤ (hi : Int) := by omega
    go_upto_region 7 with fail
    go_wp2_with fail
    refine (HLZ.out _).mono ?_
    rintro e w1 ⟨rfl, rfl⟩
    rw [show (64 - (Lib.bitLen (Int.toNat 1000000) : Int)) = 44 from by decide]
    clear HLZ
    obtain ⟨u, L, q1, r1, n1, n0, q0, r0, hA⟩ : ∃ u L q1 r1 n1 n0 q0 r0 : Nat, DvA hi lo u L q1 r1 n1 n0 q0 r0 := ⟨_, _, _, _, _, _, _, _, rfl, rfl, rfl, rfl, rfl, rfl, rfl, rfl⟩
    obtain ⟨x0, x1, x2, x3, y0, y1, y2, y3, y4, z0, z1, z2, z3, z4, z5, z6, z7, z8, z9, hE⟩ := hA.e h1 h2
    have HE := Lib.hid hE
    clear hA hz hz2 hz3 h1 h2 hE
    obtain ⟨f0, e2, e3, e4, e5, e6, e7, e8, f1, f2, g1, g2, g3, g4, g5, g6, g7, j1, j2, j3, j4, j5, j6, j7, j8, j9, _, hq, hr⟩ := HE.out
    have e1 := and_y
    rw [Int.tdiv_eq_ediv_of_nonneg (by clear f0 e2 e3 e4 e5 e6 e7 e8 f1 f2 g1 g2 g3 g4 g5 g6 g7 j1 j2 j3 j4 j5 j6 j7 j8 j9 e1; omega)] at e5 g5
    have c1 : (q1 : Int) < 4294967296 := by clear f0 e2 e3 e4 e5 e6 e7 e8 f1 f2 g1 g2 g3 g4 g5 g6 g7 j1 j2 j3 j4 j5 j6 j7 j8 j9 e1; omega
    have c3 : (q0 : Int) < 4294967296 := by clear f0 e2 e3 e4 e5 e6 e7 e8 f1 f2 g1 g2 g3 g4 g5 g6 g7 j1 j2 j3 j4 j5 j6 j7 j8 j9 e1; omega
    have d1 : decide ((4294967296 : Int) ≤ (q1 : Int)) = false := decide_eq_false (Int.not_le.2 c1)
    have d2 : decide ((4294967296 : Int) ≤ (q0 : Int)) = false := decide_eq_false (Int.not_le.2 c3)
    have d3 : decide ((x3 : Int) < 0) = false := decide_eq_false (Int.not_lt.2 (Int.natCast_nonneg x3))
    have d4 : decide ((z1 : Int) < 0) = false := decide_eq_false (Int.not_lt.2 (Int.natCast_nonneg z1))
    have w0 : IntKind.u64.wrap 0 = 0 := by decide
    clear hq hr
    go_upto_region 17 with fail
    go_loopw [15, 16] (fun a b wr => a = .int .u64 q1 ∧ b = .int .u64 r1 ∧ w1 = wr) (fun _ _ _ => 0)
    case atStart => exact ⟨rfl, rfl, rfl⟩
    case round =>
      obtain ⟨rfl, rfl, rfl⟩ := hrel
      go_wp2
      go_loopw [18, 16] (fun a b wr => a = .int .u64 q0 ∧ b = .int .u64 r0 ∧ w1 = wr) (fun _ _ _ => 0)
      case atStart => exact ⟨rfl, rfl, rfl⟩
      case round =>
        obtain ⟨rfl, rfl, rfl⟩ := hrel
        go_wp2
        go_ret2
        refine ⟨?_, Below.refl _ _⟩
        simp only [Int.natCast_ediv, Int.natCast_emod, Int.natCast_add, Int.natCast_mul, Int.cast_ofNat_Int]
        rfl
end Go.Proofs.YtgepbkldgnjpfaaGreatDoor

/- rate.Of of what is not below 0, to the half. -/
namespace Go.Proofs.YtgepbkldgnjpfaaGreatDoor
open Go.RowKit Go.Sort

/-- A rate's part of an amount, to the half: neither below 0. -/
def ofN (a b : Nat) : Nat := (a * b + 500000) / 1000000
theorem ofN_q (a b : Nat) : ofN a b = if 500000 ≤ a * b % 1000000 then a * b / 1000000 + 1 else a * b / 1000000 := by
  unfold ofN
  split <;> omega
theorem ofN_le (a b : Nat) (h : b ≤ 1000000) : ofN a b ≤ a := by
  have h1 : a * b ≤ a * 1000000 := Nat.mul_le_mul_left a h
  unfold ofN
  omega

theorem rt_size (n : Nat) (w : World) (h : n < 9223372036854775808) : Calls Tryz.prog 189 #[.int .i64 n] w fun e w' => e = .returned (.int .u64 n) ∧ w = w' := by
  have h1 : ¬ (n : Int) < 0 := by omega
  have h2 : IntKind.u64.wrap (n : Int) = (n : Int) := wrap_u64n n (by omega)
  go_enter Tryz.func189, Tryz.ntmps189
  go_wp2
  go_ret
  exact ⟨rfl, rfl⟩

theorem rt_up (q l : Nat) (w : World) (h : l < 1000000) : Calls Tryz.prog 191 #[.bool false, .int .u64 q, .int .u64 l, .int .u64 1000000, .int .i64 1] w fun e w' => e = .returned (.bool (decide (500000 ≤ l))) ∧ w = w' := by
  have hs : IntKind.u64.wrap ((1000000 : Int) - (l : Int)) = 1000000 - (l : Int) := by rw [IntKind.wrap_u64]; omega
  go_enter Tryz.func191, Tryz.ntmps191
  by_cases hl : 500000 ≤ l
  · have HR := Lib.hid hl
    have h1 : (1000000 : Int) - (l : Int) ≤ (l : Int) := by omega
    clear hl
    go_wp2
    go_ret
    exact ⟨by rw [decide_eq_true HR.out]; rfl, rfl⟩
  · have HR := Lib.hid hl
    have h1 : ¬ (1000000 : Int) - (l : Int) ≤ (l : Int) := by omega
    clear hl
    go_wp2
    go_ret
    exact ⟨by rw [decide_eq_false HR.out]; rfl, rfl⟩

theorem rt_quotient (a b : Nat) (w : World) (ha : a ≤ 1125899906842624) (hb : b ≤ 1000000) : Calls Tryz.prog 173 #[.int .i64 a, .int .i64 b, .int .u64 1000000, .int .u64 1125899906842624, .int .i64 1] w fun e w' => e = .returned (.tuple #[.int .i64 (ofN a b), .bool true]) ∧ Below w.heap.size w w' := by
  have H1 := Lib.hid (fun W => rt_size a W (by omega))
  have H2 := Lib.hid (fun W => rt_size b W (by omega))
  have H3 := Lib.hid (fun W => Tryz.bits_Mul64 a b (by omega) (by omega) W)
  have hp : a * b ≤ 1125899906842624 * 1000000 := Nat.mul_le_mul ha hb
  have hO := ofN_q a b
  have hL := ofN_le a b hb
  have k1 : ¬ (a : Int) < 0 := by omega
  have k2 : ¬ (b : Int) < 0 := by omega
  obtain ⟨P, hP⟩ : ∃ P, a * b = P := ⟨_, rfl⟩
  rw [hP] at H3 hp hO
  obtain ⟨hi, hhi⟩ : ∃ hi, P / 18446744073709551616 = hi := ⟨_, rfl⟩
  obtain ⟨lo, hlo⟩ : ∃ lo, P % 18446744073709551616 = lo := ⟨_, rfl⟩
  rw [hhi, hlo] at H3
  have H4 := Lib.hid (fun W => b_Div64 hi lo W (by omega) (by omega))
  rw [show hi * 18446744073709551616 + lo = P by omega] at H4
  obtain ⟨q, hq⟩ : ∃ q, P / 1000000 = q := ⟨_, rfl⟩
  obtain ⟨r, hr⟩ : ∃ r, P % 1000000 = r := ⟨_, rfl⟩
  rw [hq, hr] at H4 hO
  have H5 := Lib.hid (fun W => rt_up q r W (by omega))
  have g1 : (hi : Int) < 1000000 := by omega
  have g2 : (q : Int) ≤ 1125899906842624 := by
    by_cases hc : 500000 ≤ r
    · rw [if_pos hc] at hO; omega
    · rw [if_neg hc] at hO; omega
  have d1 : decide ((1000000 : Int) ≤ (hi : Int)) = false := decide_eq_false (Int.not_le.2 g1)
  have d2 : decide ((1125899906842624 : Int) < (q : Int)) = false := decide_eq_false (Int.not_lt.2 g2)
  go_enter Tryz.func173, Tryz.ntmps173
  by_cases hc : 500000 ≤ r
  · rw [if_pos hc] at hO
    rw [decide_eq_true hc] at H5
    have u1 : IntKind.u64.wrap ((q : Int) + 1) = ((q + 1 : Nat) : Int) := wrap_u64n (q + 1) (by omega)
    have u2 : ((q + 1 : Nat) : Int) ≤ 1125899906842624 := by omega
    have d3 : decide ((1125899906842624 : Int) < ((q + 1 : Nat) : Int)) = false := decide_eq_false (Int.not_lt.2 u2)
    have u3 : IntKind.i64.wrap ((q + 1 : Nat) : Int) = ((q + 1 : Nat) : Int) := by rw [IntKind.wrap_i64]; omega
    have HO := Lib.hid hO
    generalize q + 1 = q1 at *
    clear hO hL hp hhi hlo hq hr hP hc ha hb g1
    go_wp2_with fail
    refine (H1.out _).mono ?_
    rintro e w1 ⟨rfl, rfl⟩
    go_wp2_with fail
    refine (H2.out _).mono ?_
    rintro e w1 ⟨rfl, rfl⟩
    go_wp2_with fail
    refine (H3.out _).mono ?_
    rintro e w1 ⟨rfl, rfl⟩
    go_wp2_with fail
    refine (H4.out _).mono ?_
    rintro e w1 ⟨rfl, hB⟩
    have HB := Lib.hid hB
    clear hB
    go_wp2_with fail
    refine (H5.out _).mono ?_
    rintro e w2 ⟨rfl, rfl⟩
    go_wp2_with fail
    go_ret2
    rw [HO.out]
    exact ⟨rfl, HB.out⟩
  · rw [if_neg hc] at hO
    rw [decide_eq_false hc] at H5
    have u3 : IntKind.i64.wrap (q : Int) = (q : Int) := by rw [IntKind.wrap_i64]; omega
    have HO := Lib.hid hO
    clear hO hL hp hhi hlo hq hr hP hc ha hb g1
    go_wp2_with fail
    refine (H1.out _).mono ?_
    rintro e w1 ⟨rfl, rfl⟩
    go_wp2_with fail
    refine (H2.out _).mono ?_
    rintro e w1 ⟨rfl, rfl⟩
    go_wp2_with fail
    refine (H3.out _).mono ?_
    rintro e w1 ⟨rfl, rfl⟩
    go_wp2_with fail
    refine (H4.out _).mono ?_
    rintro e w1 ⟨rfl, hB⟩
    have HB := Lib.hid hB
    clear hB
    go_wp2_with fail
    refine (H5.out _).mono ?_
    rintro e w2 ⟨rfl, rfl⟩
    go_wp2_with fail
    go_ret2
    rw [HO.out]
    exact ⟨rfl, HB.out⟩
end Go.Proofs.YtgepbkldgnjpfaaGreatDoor

/- rate.Of, to the half. -/
namespace Go.Proofs.YtgepbkldgnjpfaaGreatDoor
open Go.RowKit Go.Sort

theorem rt_amount (a : Nat) (w : World) (ha : a ≤ 1125899906842624) : Calls Tryz.prog 137 #[.int .i64 a] w fun e w' => e = .returned (.bool true) ∧ w = w' := by
  have h1 : (-1125899906842624 : Int) ≤ (a : Int) := by omega
  have h2 : (a : Int) ≤ 1125899906842624 := by omega
  have d1 : decide ((-1125899906842624 : Int) ≤ (a : Int)) = true := decide_eq_true h1
  have d2 : decide ((a : Int) ≤ 1125899906842624) = true := decide_eq_true h2
  go_enter Tryz.func137, Tryz.ntmps137
  go_wp2
  go_ret
  exact ⟨rfl, rfl⟩
theorem rt_right (b : Nat) (w : World) (hb : b ≤ 1000000) : Calls Tryz.prog 138 #[.int .i64 b] w fun e w' => e = .returned (.bool true) ∧ w = w' := by
  have h1 : (-1000000000 : Int) ≤ (b : Int) := by omega
  have h2 : (b : Int) ≤ 1000000000 := by omega
  have d1 : decide ((-1000000000 : Int) ≤ (b : Int)) = true := decide_eq_true h1
  have d2 : decide ((b : Int) ≤ 1000000000) = true := decide_eq_true h2
  go_enter Tryz.func138, Tryz.ntmps138
  go_wp2
  go_ret
  exact ⟨rfl, rfl⟩
theorem rt_part (a b : Nat) (w : World) (ha : a ≤ 1125899906842624) (hb : b ≤ 1000000) : Calls Tryz.prog 139 #[.int .i64 a, .int .i64 b, .int .i64 1000000, .int .i64 1] w fun e w' => e = .returned (.tuple #[.int .i64 (ofN a b), .int .i64 0]) ∧ Below w.heap.size w w' := by
  have H1 := Lib.hid (fun W => rt_amount a W ha)
  have H2 := Lib.hid (fun W => rt_quotient a b W ha hb)
  go_enter Tryz.func139, Tryz.ntmps139
  clear ha hb
  go_wp2_with fail
  refine (H1.out _).mono ?_
  rintro e w1 ⟨rfl, rfl⟩
  go_wp2_with fail
  refine (H2.out _).mono ?_
  rintro e w1 ⟨rfl, hB⟩
  have HB := Lib.hid hB
  clear hB
  go_wp2_with fail
  go_ret2
  exact ⟨rfl, HB.out⟩
/-- rate.Of, to the half. -/
theorem rt_of (a b : Nat) (w : World) (ha : a ≤ 1125899906842624) (hb : b ≤ 1000000) : Calls Tryz.prog 99 #[.int .i64 a, .int .i64 b, .int .i64 1] w fun e w' => e = .returned (.tuple #[.int .i64 (ofN a b), .int .i64 0]) ∧ Below w.heap.size w w' := by
  have H1 := Lib.hid (fun W => rt_amount a W ha)
  have H2 := Lib.hid (fun W => rt_right b W hb)
  have H3 := Lib.hid (fun W => rt_part a b W ha hb)
  go_enter Tryz.func99, Tryz.ntmps99
  clear ha hb
  go_wp2_with fail
  refine (H1.out _).mono ?_
  rintro e w1 ⟨rfl, rfl⟩
  go_wp2_with fail
  refine (H2.out _).mono ?_
  rintro e w1 ⟨rfl, rfl⟩
  go_wp2_with fail
  refine (H3.out _).mono ?_
  rintro e w1 ⟨rfl, hB⟩
  have HB := Lib.hid hB
  clear hB
  go_wp2_with fail
  go_ret2
  exact ⟨rfl, HB.out⟩
end Go.Proofs.YtgepbkldgnjpfaaGreatDoor
