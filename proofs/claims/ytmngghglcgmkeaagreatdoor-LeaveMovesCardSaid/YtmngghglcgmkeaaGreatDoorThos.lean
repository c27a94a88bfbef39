/- Merged from: Row9 St9 St10 St11 St12. -/
import Derived.Test.YtmngghglcgmkeaaGreatDoorImps
import Derived.WalkKit
import Derived.Below
import Derived.Laws.Rows
import Derived.Laws.AppendOwn
import Derived.Laws.OwnMore
import Derived.OwnWalk
import Derived.Lib.Hide
/- Rows of elements of several cells; one element appended. (From StK's head and Own, for this seat.) -/
namespace Go.Proofs.YtmngghglcgmkeaaGreatDoor
open Go.RowKit Go.Sort

def wrMany (cur : Array Value) (o : Nat) : List Value → Array Value
  | [] => cur
  | v :: r => wrMany (cur.setIfInBounds o v) (o + 1) r
theorem wrMany_size : ∀ (vs : List Value) (cur : Array Value) (o : Nat), (wrMany cur o vs).size = cur.size
  | [], _, _ => rfl
  | v :: r, cur, o => by rw [wrMany, wrMany_size r]; simp
theorem wrMany_get : ∀ (vs : List Value) (cur : Array Value) (o t : Nat), o + vs.length ≤ cur.size → (wrMany cur o vs)[t]? = if o ≤ t ∧ t < o + vs.length then vs[t - o]? else cur[t]?
  | [], cur, o, t, _ => by rw [wrMany, if_neg (by rw [List.length_nil]; omega)]
  | v :: r, cur, o, t, h => by
    rw [List.length_cons] at h
    rw [wrMany, wrMany_get r _ _ _ (by simp; omega)]
    by_cases h1 : o + 1 ≤ t ∧ t < o + 1 + r.length
    · rw [if_pos h1, if_pos (by rw [List.length_cons]; omega), show t - o = (t - (o + 1)) + 1 by omega, List.getElem?_cons_succ]
    · rw [if_neg h1]
      by_cases h2 : t = o
      · subst h2
        rw [if_pos (by rw [List.length_cons]; omega), Nat.sub_self, List.getElem?_cons_zero, Array.getElem?_setIfInBounds, if_pos rfl, if_pos (by omega)]
      · rw [if_neg (by rw [List.length_cons]; omega), Array.getElem?_setIfInBounds, if_neg (by omega)]
theorem heap_setCells {g : Nat} {e : TypeId} : ∀ (vs : List Value) (w : World) (cur : Array Value) (o : Nat), w.heap[g]? = some (.cells cur e (0, 0)) → (w.setCells g o vs).heap[g]? = some (.cells (wrMany cur o vs) e (0, 0))
  | [], _, _, _, h => h
  | v :: r, w, cur, o, h => by
    rw [World.setCells, wrMany]
    refine heap_setCells r _ _ _ ?_
    simp [World.setCell, Array.getElem?_modify, h]
theorem gTrans {g : Nat} {a b c : World} (h : a.grownBy b (some g)) (k : b.grownBy c (some g)) : a.grownBy c (some g) :=
  ⟨k.os.trans h.os, k.tape.trans h.tape, k.output.trans h.output, Nat.le_trans h.size k.size, fun i hi hn => (k.block i (Nat.lt_of_lt_of_le hi h.size) hn).trans (h.block i hi hn)⟩
theorem gBelow {g : Nat} {a b : World} (h : Below a.heap.size a b) : a.grownBy b (some g) := ⟨h.os, h.tape, h.output, h.size, fun i hi _ => h.block i hi⟩
theorem gDrew {g : Nat} {a b : World} (h : a.grownBy b (some g)) : a.grownBy b.drew (some g) := ⟨h.os, h.tape, h.output, h.size, h.block⟩
theorem grown_setCells {g : Nat} : ∀ (vs : List Value) (w : World) (o : Nat), w.grownBy (w.setCells g o vs) (some g)
  | [], w, _ => World.grownBy.refl _ _
  | v :: r, w, o => by
    rw [World.setCells]
    have h1 : w.grownBy (w.setCell ⟨g, o, none⟩ v) (some g) := ⟨rfl, rfl, rfl, by simp [World.setCell], fun k _ hk => Below.heap_setCell _ _ _ _ (by simpa using hk)⟩
    exact gTrans h1 (grown_setCells r _ _)

/-- Block g: a row of l's elements, k cells each. -/
def Rw {α : Type} (enc : α → List Value) (k : Nat) (e : TypeId) (g cap : Nat) (l : List α) (w : World) : Prop :=
  ∃ cur, w.heap[g]? = some (.cells cur e (0, 0)) ∧ cur.size = cap * k ∧ l.length ≤ cap ∧ ∀ i x, l[i]? = some x → ∀ j u, (enc x)[j]? = some u → cur[i * k + j]? = some u

section
variable {α : Type} {enc : α → List Value} {k : Nat} {e : TypeId} {g cap : Nat} {l : List α} {w w' : World}
theorem Rw.cell (h : Rw enc k e g cap l w) {i : Nat} {x : α} (hx : l[i]? = some x) {j : Nat} {u : Value} (hu : (enc x)[j]? = some u) : w.cell? ⟨g, i * k + j, none⟩ = some u := by
  obtain ⟨cur, hc, _, _, hh⟩ := h
  have := hh i x hx j u hu
  simp [World.cell?, hc, this]
theorem Rw.frozen (h : Rw enc k e g cap l w) (o : Nat) : w.frozen? ⟨g, o, none⟩ = false := by
  obtain ⟨cur, hc, _⟩ := h
  simp [World.frozen?, hc]
theorem Rw.lt (h : Rw enc k e g cap l w) : g < w.heap.size := by
  obtain ⟨cur, hc, _⟩ := h
  exact (Array.getElem?_eq_some_iff.1 hc).1
theorem Rw.le (h : Rw enc k e g cap l w) : l.length ≤ cap := by
  obtain ⟨cur, _, _, hc, _⟩ := h
  exact hc
theorem Rw.drew (h : Rw enc k e g cap l w) : Rw enc k e g cap l w.drew := h
theorem Rw.drewN (h : Rw enc k e g cap l w) (n : Nat) : Rw enc k e g cap l (w.drewN n) := h
theorem Rw.below {B : Nat} (h : Rw enc k e g cap l w) (hb : Below B w w') (hg : g < B) : Rw enc k e g cap l w' := by
  obtain ⟨cur, hc, hr⟩ := h
  exact ⟨cur, (hb.block g hg).trans hc, hr⟩
theorem Rw.set_ (hk : ∀ x, (enc x).length = k) (h : Rw enc k e g cap l w) {i : Nat} (hi : i < l.length) (y : α) : Rw enc k e g cap (l.set i y) (w.setCells g (i * k) (enc y)) := by
  obtain ⟨cur, hc, hs, hl, hh⟩ := h
  have hb : i * k + k ≤ cur.size := by
    have := Nat.mul_le_mul_right k (show i + 1 ≤ cap by omega)
    rw [Nat.add_mul, Nat.one_mul] at this; omega
  refine ⟨_, heap_setCells _ _ _ _ hc, by rw [wrMany_size, hs], by simpa using hl, fun t x hx j u hu => ?_⟩
  have hj : j < k := by rw [← hk x]; exact (List.getElem?_eq_some_iff.1 hu).1
  rw [wrMany_get _ _ _ _ (by rw [hk]; exact hb), hk]
  rw [List.getElem?_set] at hx
  by_cases ht : i = t
  · subst ht
    rw [if_pos rfl, if_pos hi] at hx
    cases hx
    rw [if_pos (by omega), Nat.add_sub_cancel_left]
    exact hu
  · rw [if_neg ht] at hx
    rw [if_neg]
    · exact hh t x hx j u hu
    · rintro ⟨h1, h2⟩
      rcases Nat.lt_or_gt_of_ne ht with h3 | h3
      · have := Nat.mul_le_mul_right k (show i + 1 ≤ t from h3)
        rw [Nat.add_mul, Nat.one_mul] at this; omega
      · have := Nat.mul_le_mul_right k (show t + 1 ≤ i from h3)
        rw [Nat.add_mul, Nat.one_mul] at this; omega
end
theorem get_mid {α : Type} (P Q : List α) (x : α) {n : Nat} (h : P.length = n) : (P ++ x :: Q)[n]? = some x := by subst h; simp
theorem set_mid {α : Type} (P Q : List α) (x y : α) {n : Nat} (h : P.length = n) : (P ++ x :: Q).set n y = P ++ y :: Q := by subst h; simp
/-- The cells of elements. -/
def rowOf {α : Type} (enc : α → List Value) (l : List α) : List Value := l.flatMap enc
section
variable {α : Type} {enc : α → List Value} {k : Nat}
theorem rowOf_append (l m : List α) : rowOf enc (l ++ m) = rowOf enc l ++ rowOf enc m := List.flatMap_append
theorem rowOf_one (x : α) : rowOf enc [x] = enc x := by simp [rowOf]
theorem rowOf_length (hk : ∀ x, (enc x).length = k) (l : List α) : (rowOf enc l).length = l.length * k := by
  induction l with
  | nil => simp [rowOf]
  | cons x l ih =>
    have : rowOf enc (x :: l) = enc x ++ rowOf enc l := rfl
    rw [this, List.length_append, ih, hk, List.length_cons, Nat.add_mul]; omega
theorem rowOf_get (hk : ∀ x, (enc x).length = k) : ∀ (l : List α) (i : Nat) (x : α), l[i]? = some x → ∀ (j : Nat) (u : Value), (enc x)[j]? = some u → (rowOf enc l)[i * k + j]? = some u := by
  intro l
  induction l with
  | nil => intro i x h; simp at h
  | cons y l ih =>
    intro i x h j u hu
    have e : rowOf enc (y :: l) = enc y ++ rowOf enc l := rfl
    have hj : j < k := by rw [← hk x]; exact (List.getElem?_eq_some_iff.1 hu).1
    cases i with
    | zero =>
      cases h
      rw [e, List.getElem?_append_left (by rw [hk]; omega), Nat.zero_mul, Nat.zero_add]; exact hu
    | succ i =>
      rw [List.getElem?_cons_succ] at h
      rw [e, List.getElem?_append_right (by rw [hk, Nat.add_mul]; omega), hk, Nat.add_mul, show i * k + 1 * k + j - k = i * k + j by omega]
      exact ih i x h j u hu
end

/-- A slice value that owns a row of l's elements. -/
def Own {α : Type} (enc : α → List Value) (k : Nat) (e : TypeId) (base : Nat) (v : Value) (l : List α) (w : World) : Prop := w.ownsRow base e k v l.length (rowOf enc l)
section
variable {α : Type} {enc : α → List Value} {k : Nat} {e : TypeId} {base : Nat} {v : Value} {l : List α} {w w' : World}
theorem Own.nil (w : World) : Own enc k e base (.slice none 0 0) [] w := World.ownsRow_nil w base e k
theorem Own.kept {r : Option Nat} (h : Own enc k e base v l w) (hg : w.grownBy w' r) (hr : v.ownBlock = none ∨ v.ownBlock ≠ r) : Own enc k e base v l w' := World.ownsRow.kept h hg hr
theorem Own.none_ (h : Own enc k e base v l w) (hg : w.grownBy w' none) : Own enc k e base v l w' := h.kept hg (by cases v.ownBlock <;> simp)
theorem Own.grows (h : Own enc k e base v l w) (hg : Grows w w') : Own enc k e base v l w' := h.none_ (hg.grownBy none)
theorem Own.alloc (h : Own enc k e base v l w) (o : Obj) : Own enc k e base v l (w.alloc o) := World.ownsRow.alloc h o
theorem Own.lt (h : Own enc k e base v l w) {b : Nat} (hb : v.ownBlock = some b) : base ≤ b ∧ b < w.heap.size := World.ownsRow.lt h b hb
theorem Own.far (h : Own enc k e base v l w) {b : Nat} (hb : b < base) : some b ≠ v.ownBlock := fun he => by have := (h.lt he.symm).1; omega
/-- It is a row of its own, if there is an element. -/
theorem Own.row (hk : ∀ x, (enc x).length = k) (h : Own enc k e base v l w) (hl : l ≠ []) : ∃ g cap, v = .slice (some ⟨g, 0, none⟩) l.length cap ∧ base ≤ g ∧ Rw enc k e g cap l w := by
  rcases h.2 with ⟨_, h0⟩ | ⟨g, cap, cur, hv, hb, hg, hn, _, hs, ht⟩
  · exact absurd (List.length_eq_zero_iff.1 h0) hl
  · refine ⟨g, cap, hv, hb, cur, hg, hs, hn, fun i x hx j u hu => ?_⟩
    have h1 := rowOf_get hk l i x hx j u hu
    have h2 : (cur.toList.take (l.length * k))[i * k + j]? = some u := by rw [ht]; exact h1
    rw [List.getElem?_take] at h2
    split at h2
    · simpa using h2
    · cases h2
theorem Own.ne_ {g : Nat} {t : TypeId} {cs : Array Value} (h : Own enc k e base v l w) (hg : Bk g t cs w) (hne : e ≠ t) : some g ≠ v.ownBlock := by
  rcases h.2 with ⟨rfl, _⟩ | ⟨g', cap, cur, rfl, _, hh, _⟩
  · simp [Value.ownBlock]
  · intro he
    have : g = g' := by simpa [Value.ownBlock] using he
    subst this
    exact Bk.ne_ (t := e) hh hg hne rfl
theorem Own.nilv (h : Own enc k e base v l w) (hv : v.ownBlock = none) : v = .slice none 0 0 := by
  rcases h.2 with ⟨rfl, _⟩ | ⟨g, cap, cur, rfl, _⟩
  · rfl
  · simp [Value.ownBlock] at hv
end

/-- One element more. -/
theorem wpList_append_row {α : Type} {enc : α → List Value} {k : Nat} {P : Program} {ops : Array Oper} {rest : List Oper} {o : Oper} {a : Act} {w : World} {Q : Exit → Act → World → Prop}
    (hk : ∀ x, (enc x).length = k) (h1 : ∀ x, ∀ u ∈ enc x, u.oneCell' = true) (hgd : o.guard = none) (s x : Operand) (t : TypeId)
    (ho : o.op = .call { callee := .builtin .append, args := #[s, x], argTypes := #[t, t] })
    (base : Nat) (e : TypeId) (z : Value) (bytes : Nat) (ht : P.underlying t = some (.slice e)) (hi : (P.info? e).map (fun i => (i.zero, i.size, i.bytes)) = some (some z, k, bytes)) (hzs : z.cells.size = k) (hsz : 0 < k)
    (v : Value) (l : List α) (y : α) (hs : a.eval s = v) (hown : Own enc k e base v l w)
    (b c : Nat) (hx : a.eval x = .slice (some ⟨b, 0, none⟩) 1 c) (hnews : ∀ j u, (enc y)[j]? = some u → w.cell? ⟨b, j, none⟩ = some u)
    (hn : l.length + 1 ≤ 1000000000) (hb : bytes ≤ 1000) (hbase : base ≤ w.heap.size)
    (h : ∀ v' w', Own enc k e base v' (l ++ [y]) w' → w.grownBy w' v.ownBlock → wpList P ops Q rest (a.put o.dst v') w') : wpList P ops Q (o :: rest) a w := by
  obtain ⟨i, hi1, hz, hsize, hby⟩ := info_parts hi
  refine wpList_append_own w hgd s x t ho base e i z k bytes ht hi1 hz hsize hby hzs hsz v l.length (rowOf enc l) hs hown ⟨b, 0, none⟩ 1 c (enc y) hx (by rw [hk]; omega) (fun j u hu => ?_) (h1 y) (by simp only [maxLen]; omega) ?_ hbase (fun v' w' h2 h3 _ => h v' w' ?_ h3)
  · have := hnews j u hu
    unfold Addr.add
    split
    · rename_i h0; subst h0; exact this
    · simpa using this
  · exact Nat.le_trans (Nat.mul_le_mul hn hb) (by omega)
  · unfold Own
    rw [List.length_append, rowOf_append, rowOf_one]; exact h2
end Go.Proofs.YtmngghglcgmkeaaGreatDoor

/- The facts of a view that are in force. -/
namespace Go.Proofs.YtmngghglcgmkeaaGreatDoor
open Go.RowKit Go.Sort

abbrev Kn := Int × Fa
def encK (x : Kn) : List Value := .int .i64 x.1 :: encF x.2
theorem encK_len (x : Kn) : (encK x).length = 9 := by unfold encK; rw [List.length_cons, encF_len]
theorem encK_one (x : Kn) : ∀ u ∈ encK x, u.oneCell' = true := by
  intro u hu
  rcases List.mem_cons.1 hu with rfl | h
  · rfl
  · exact encF_one x.2 u h
theorem knownInfo : (Tryz.prog.info? 67).map (fun i => (i.zero, i.size, i.bytes)) = some (some (.agg #[.int .i64 0, .int .u32 0, .int .u32 0, .int .i64 0, .int .i64 0, .int .i64 0, .string ⟨#[]⟩, .int .i64 0, .string ⟨#[]⟩]), 9, 80) := by kernel_rfl
theorem newsK (x : Kn) (w : World) : ∀ j u, (encK x)[j]? = some u → (w.alloc (.cells (encK x).toArray 67)).cell? ⟨w.heap.size, j, none⟩ = some u := by
  intro j u hu
  have h := Bk.new w 67 (encK x).toArray
  rw [h.cell]
  simpa using hu
/-- The facts of the first k that are not taken back, and that are chosen. -/
def chosen (p : Fa → Bool) (L : List Fa) (k : Nat) : List Kn := (List.range k).filterMap fun (i : Nat) => match L[i]? with
  | some f => if takenB L (((i : Nat) : Int) + 1) = true then none else if p f = true then some (((i : Nat) : Int) + 1, f) else none
  | none => none
theorem chosen_zero (p : Fa → Bool) (L : List Fa) : chosen p L 0 = [] := rfl
theorem chosen_succ (p : Fa → Bool) {L : List Fa} {k : Nat} {f : Fa} (h : L[k]? = some f) : chosen p L (k + 1) = chosen p L k ++ (if takenB L (((k : Nat) : Int) + 1) = true then [] else if p f = true then [(((k : Nat) : Int) + 1, f)] else []) := by
  unfold chosen
  rw [List.range_succ, List.filterMap_append]
  congr 1
  rw [List.filterMap_cons, h]
  by_cases h1 : takenB L (((k : Nat) : Int) + 1) = true
  · simp [h1]
  · by_cases h2 : p f = true
    · simp [h1, h2]
    · simp [h1, h2]
theorem chosen_len (p : Fa → Bool) (L : List Fa) (k : Nat) : (chosen p L k).length ≤ k := by
  unfold chosen
  have := List.length_filterMap_le (fun (i : Nat) => match L[i]? with
    | some f => if takenB L (((i : Nat) : Int) + 1) = true then none else if p f = true then some ((((i : Nat) : Int) + 1, f) : Kn) else none
    | none => none) (List.range k)
  rwa [List.length_range] at this
theorem below_grown {B : Nat} {w0 w w' : World} {v : Value} {l : List Kn} (h : Below B w0 w) (hB : B ≤ w.heap.size) (ho : Own encK 9 67 B v l w) (hg : w.grownBy w' v.ownBlock) : Below B w0 w' :=
  h.trans ⟨hg.os, hg.tape, hg.output, hg.size, fun i hi => hg.block i (by omega) (ho.far hi)⟩
theorem own_below {B : Nat} {w w' : World} {v : Value} {l : List Kn} (ho : Own encK 9 67 B v l w) (hb : Below w.heap.size w w') : Own encK 9 67 B v l w' :=
  ho.none_ ⟨hb.os, hb.tape, hb.output, hb.size, fun i hi _ => hb.block i hi⟩
def notCancel (f : Fa) : Bool := f.ki != 18
theorem backV_at {L : List Fa} {k : Nat} (h : k < L.length) : (backV L L.length)[k]? = some (.bool (takenB L ((k : Int) + 1))) := by
  unfold backV
  rw [List.getElem?_map, List.getElem?_range h, List.take_length]
  rfl
end Go.Proofs.YtmngghglcgmkeaaGreatDoor

/- The facts in force of a view. -/
namespace Go.Proofs.YtmngghglcgmkeaaGreatDoor
open Go.RowKit Go.Sort

theorem own_base {B B' : Nat} {w : World} {v : Value} {l : List Kn} (h : Own encK 9 67 B v l w) (hB : B' ≤ B) : Own encK 9 67 B' v l w := by
  rcases h with ⟨h1, h2⟩
  refine ⟨?_, ?_⟩
  · exact h1
  · rcases h2 with h0 | ⟨g, cap, cur, hv, hb, hr⟩
    · exact .inl h0
    · exact .inr ⟨g, cap, cur, hv, Nat.le_trans hB hb, hr⟩
end Go.Proofs.YtmngghglcgmkeaaGreatDoor

/- The facts in force of a person and a kind. -/
namespace Go.Proofs.YtmngghglcgmkeaaGreatDoor
open Go.RowKit Go.Sort

/-- Is a fact of a person and a kind? -/
def ofPK (pe ki : Int) (f : Fa) : Bool := decide (f.pe = pe ∧ f.ki = ki)
set_option maxRecDepth 10000 in
theorem vi_Facts1 (f : Fa) (pe ki : Int) (pb kb : Nat) (w : World) (hp : w.cell? ⟨pb, 0, none⟩ = some (.int .u32 pe)) (hq : w.cell? ⟨kb, 0, none⟩ = some (.int .i64 ki)) :
    Calls Tryz.prog 46 #[.agg (FA f), .pointer (some ⟨pb, 0, none⟩), .pointer (some ⟨kb, 0, none⟩)] w fun e w' => e = .returned (.bool (ofPK pe ki f)) ∧ Below w.heap.size w w' := by
  have HB := Lib.hid (bAlloc w (.cells (FA f) 26))
  have HV : Hid (ofPK pe ki f = decide (f.pe = pe ∧ f.ki = ki)) := Lib.hid rfl
  have l1 := cell_lt hp
  have l2 := cell_lt hq
  simp only at l1 l2
  unfold FA at HB ⊢
  by_cases h1 : f.pe = pe
  · have b1 : (f.pe == pe) = true := beq_iff_eq.2 h1
    have HF : Hid (ofPK pe ki f = (f.ki == ki)) := Lib.hid (by
      rw [HV.out]
      by_cases h2 : f.ki = ki
      · rw [decide_eq_true ⟨h1, h2⟩, beq_iff_eq.2 h2]
      · rw [decide_eq_false (fun h => h2 h.2), beq_eq_false_iff_ne.2 h2])
    clear h1
    go_enter Tryz.func46, Tryz.ntmps46
    go_wp2
    go_ret
    exact ⟨ret_b HF.out.symm, HB.out⟩
  · have b1 : (f.pe == pe) = false := beq_eq_false_iff_ne.2 h1
    have HF : Hid (ofPK pe ki f = false) := Lib.hid (by rw [HV.out, decide_eq_false (fun h => h1 h.1)])
    clear h1
    go_enter Tryz.func46, Tryz.ntmps46
    go_wp2
    go_ret
    exact ⟨ret_b HF.out.symm, HB.out⟩
set_option maxHeartbeats 4000000 in
set_option maxRecDepth 100000 in
theorem vi_thoseOf (pe ki : Int) (pb kb : Nat) (L : List Fa) (A : Option Addr) (cap : Nat) (w : World) (hn : L.length ≤ 4096) (hs : SlF w A L) (hp : w.cell? ⟨pb, 0, none⟩ = some (.int .u32 pe)) (hq : w.cell? ⟨kb, 0, none⟩ = some (.int .i64 ki)) :
    Calls Tryz.prog 45 #[.agg #[.slice A L.length cap], .func (.func 46) #[] #[.pointer (some ⟨pb, 0, none⟩), .pointer (some ⟨kb, 0, none⟩)]] w fun e w' => (∃ v, e = .returned v ∧ Own encK 9 67 w.heap.size v (chosen (ofPK pe ki) L L.length) w') ∧ Below w.heap.size w w' := by
  obtain ⟨vb, hvb⟩ : ∃ x, w.heap.size = x := ⟨_, rfl⟩
  obtain ⟨w2, hw2⟩ : ∃ x, w.alloc (.cells #[.slice A L.length cap] 43) = x := ⟨_, rfl⟩
  have HS := Lib.hid hs
  have HPC : Hid (∀ W, Below w.heap.size w W → W.cell? ⟨pb, 0, none⟩ = some (.int .u32 pe) ∧ W.cell? ⟨kb, 0, none⟩ = some (.int .i64 ki)) := Lib.hid (fun W hb => ⟨bCell hb hp, bCell hb hq⟩)
  clear hp hq
  have HV2 : Hid (Bk vb 43 #[.slice A L.length cap] w2) := Lib.hid (by rw [← hw2, ← hvb]; exact Bk.new _ _ _)
  have HB2 : Hid (Below w.heap.size w w2) := Lib.hid (by rw [← hw2]; exact bAlloc w _)
  have HBK := Lib.hid (vi_back L A cap w2 hn (hs.below HB2.out))
  clear hs
  have V0 : w2.cell? ⟨vb, 0, none⟩ = some (.slice A L.length cap) := HV2.out.cell 0
  go_enter Tryz.func45, Tryz.ntmps45
  go_wp2_with fail
  refine HBK.out.mono ?_
  rintro e w3 ⟨⟨gb, rfl, hgb, hbk⟩, hb3⟩
  have HB3 : Hid (Below w.heap.size w w3) := Lib.hid (bTrans HB2.out hb3)
  have HG3 := Lib.hid hbk
  have V1 : w3.cell? ⟨vb, 0, none⟩ = some (.slice A L.length cap) := bCell hb3 V0
  clear V0 hw2 hvb hb3 hbk hgb
  go_wp2
  clear V1
  go_loopw [5, 7, 8, 14] (fun ov _ _ iv wr => ∃ k : Nat, k ≤ L.length ∧ iv = .int .i64 k ∧ Hid (Own encK 9 67 w.heap.size ov (chosen (ofPK pe ki) L k) wr) ∧ Hid (Bk gb 4 (backV L L.length).toArray wr) ∧ Hid (Below w.heap.size w wr)) (fun _ _ _ iv _ => L.length - (intOf iv).toNat)
  case atStart => exact ⟨0, Nat.zero_le _, rfl, Lib.hid (Own.nil _), HG3, HB3⟩
  case round =>
    obtain ⟨k, hk, rfl, HO, HG, HB⟩ := hrel
    by_cases hlt : k < L.length
    · obtain ⟨b, off, rfl, hbl, hat⟩ := SlF.open_ HS.out (by intro h; simp [h] at hlt)
      obtain ⟨f, hx⟩ : ∃ x, L[k]? = some x := ⟨_, List.getElem?_eq_getElem hlt⟩
      have hat1 := (hat k f hx).below HB.out
      have C0 := hat1.c0
      have C1 := hat1.c1
      have C2 := hat1.c2
      have C3 := hat1.c3
      have C4 := hat1.c4
      have C5 := hat1.c5
      have C6 := hat1.c6
      have C7 := hat1.c7
      have HCS := Lib.hid (chosen_succ (ofPK pe ki) hx)
      obtain ⟨fb, hfb⟩ : ∃ x, wr.heap.size = x := ⟨_, rfl⟩
      obtain ⟨w4, hw4⟩ : ∃ x, wr.alloc (.cells (FA f) 26) = x := ⟨_, rfl⟩
      have HF4 : Hid (Bk fb 26 (FA f) w4) := Lib.hid (by rw [← hw4, ← hfb]; exact Bk.new _ _ _)
      have HO4 : Hid (Own encK 9 67 w.heap.size u5 (chosen (ofPK pe ki) L k) w4) := Lib.hid (by rw [← hw4]; exact HO.out.alloc _)
      have HG4 : Hid (Bk gb 4 (backV L L.length).toArray w4) := Lib.hid (by rw [← hw4]; exact HG.out.grows (.of_alloc _ _))
      have HB4 : Hid (Below w.heap.size w w4) := Lib.hid (by rw [← hw4]; exact bTrans HB.out (bAlloc wr _))
      have HCL := Lib.hid (fun W hb => vi_Facts1 f pe ki pb kb W (HPC.out W hb).1 (HPC.out W hb).2)
      have HLE := chosen_len (ofPK pe ki) L k
      have D0 : w4.cell? ⟨gb, k, none⟩ = some (.bool (takenB L ((k : Int) + 1))) := by rw [HG4.out.cell]; simpa using backV_at hlt
      unfold FA at hw4 HCL
      clear hat hat1 hx
      obtain ⟨tk, htk⟩ : ∃ x, takenB L ((k : Int) + 1) = x := ⟨_, rfl⟩
      rw [htk] at D0 HCS
      clear htk
      go_upto_region 6 with fail
      clear C0 C1 C2 C3 C4 C5 C6 C7 hw4 hfb
      cases tk with
      | true =>
        have HC2 : Hid (chosen (ofPK pe ki) L (k + 1) = chosen (ofPK pe ki) L k) := Lib.hid (by rw [HCS.out, if_pos rfl, List.append_nil])
        go_wp2
        exact ⟨⟨k + 1, by omega, by go_num, Lib.hid (by rw [HC2.out]; exact HO4.out), HG4, HB4⟩, by simp [intOf]; omega⟩
      | false =>
        have F0 : w4.cell? ⟨fb, 0, none⟩ = some (.int .u32 f.id) := HF4.out.cell 0
        have F1 : w4.cell? ⟨fb, 1, none⟩ = some (.int .u32 f.pe) := HF4.out.cell 1
        have F2 : w4.cell? ⟨fb, 2, none⟩ = some (.int .i64 f.ki) := HF4.out.cell 2
        have F3 : w4.cell? ⟨fb, 3, none⟩ = some (.int .i64 f.fr) := HF4.out.cell 3
        have F4 : w4.cell? ⟨fb, 4, none⟩ = some (.int .i64 f.to) := HF4.out.cell 4
        have F5 : w4.cell? ⟨fb, 5, none⟩ = some (.string f.co) := HF4.out.cell 5
        have F6 : w4.cell? ⟨fb, 6, none⟩ = some (.int .i64 f.nu) := HF4.out.cell 6
        have F7 : w4.cell? ⟨fb, 7, none⟩ = some (.string f.tx) := HF4.out.cell 7
        obtain ⟨nc, hnc⟩ : ∃ x, ofPK pe ki f = x := ⟨_, rfl⟩
        have HC2 : Hid (chosen (ofPK pe ki) L (k + 1) = chosen (ofPK pe ki) L k ++ if nc = true then [((k : Int) + 1, f)] else []) := Lib.hid (by rw [HCS.out, if_neg (by simp), hnc])
        rw [hnc] at HCL
        clear hnc
        go_wp2_with fail
        refine (HCL.out _ HB4.out).mono ?_
        rintro e w5 ⟨rfl, hb5⟩
        have HF5 : Hid (Bk fb 26 (FA f) w5) := Lib.hid ((hb5.block fb HF4.out.lt).trans HF4.out)
        have HG5 : Hid (Bk gb 4 (backV L L.length).toArray w5) := Lib.hid ((hb5.block gb HG4.out.lt).trans HG4.out)
        have HB5 := Lib.hid (bTrans HB4.out hb5)
        have HO5 := Lib.hid (own_below HO4.out hb5)
        clear F0 F1 F2 F3 F4 F5 F6 F7 hb5 D0
        cases nc with
        | false =>
          have HC3 : Hid (chosen (ofPK pe ki) L (k + 1) = chosen (ofPK pe ki) L k) := Lib.hid (by rw [HC2.out, if_neg (by simp), List.append_nil])
          go_wp2
          exact ⟨⟨k + 1, by omega, by go_num, Lib.hid (by rw [HC3.out]; exact HO5.out), HG5, HB5⟩, by simp [intOf]; omega⟩
        | true =>
          have HC3 : Hid (chosen (ofPK pe ki) L (k + 1) = chosen (ofPK pe ki) L k ++ [((k : Int) + 1, f)]) := Lib.hid (by rw [HC2.out, if_pos rfl])
          have HL : (chosen (ofPK pe ki) L k).length + 1 ≤ 1000000000 := by omega
          have HX : Hid (w.heap.size ≤ w5.heap.size) := Lib.hid HB5.out.size
          have F0 : w5.cell? ⟨fb, 0, none⟩ = some (.int .u32 f.id) := HF5.out.cell 0
          have F1 : w5.cell? ⟨fb, 1, none⟩ = some (.int .u32 f.pe) := HF5.out.cell 1
          have F2 : w5.cell? ⟨fb, 2, none⟩ = some (.int .i64 f.ki) := HF5.out.cell 2
          have F3 : w5.cell? ⟨fb, 3, none⟩ = some (.int .i64 f.fr) := HF5.out.cell 3
          have F4 : w5.cell? ⟨fb, 4, none⟩ = some (.int .i64 f.to) := HF5.out.cell 4
          have F5 : w5.cell? ⟨fb, 5, none⟩ = some (.string f.co) := HF5.out.cell 5
          have F6 : w5.cell? ⟨fb, 6, none⟩ = some (.int .i64 f.nu) := HF5.out.cell 6
          have F7 : w5.cell? ⟨fb, 7, none⟩ = some (.string f.tx) := HF5.out.cell 7
          go_wp2_with ((at_builtin; refine wpList_append_row encK_len encK_one rfl _ _ 64 rfl w.heap.size 67 _ 80 Tryz.underlying64 knownInfo rfl (by decide) _ (chosen (ofPK pe ki) L k) ((k : Int) + 1, f) rfl (HO5.out.alloc _) w5.heap.size 1 rfl (newsK ((k : Int) + 1, f) w5) HL (by decide) (Nat.le_trans HX.out (Grows.of_alloc _ _).size) ?_))
          intro v6 w6 hown6 hgr6
          have HB6 : Hid (Below w.heap.size w w6) := Lib.hid (below_grown (bTrans HB5.out (bAlloc w5 _)) (Nat.le_trans HX.out (Grows.of_alloc _ _).size) (HO5.out.alloc _) hgr6)
          have HG6 : Hid (Bk gb 4 (backV L L.length).toArray w6) := Lib.hid ((HG5.out.grows (.of_alloc _ _)).grownBy hgr6 (HO5.out.ne_ HG5.out (by decide)))
          have HO6 := Lib.hid hown6
          clear hown6 hgr6
          go_wp2
          exact ⟨⟨k + 1, by omega, by go_num, Lib.hid (by rw [HC3.out]; exact HO6.out), HG6, HB6⟩, by simp [intOf]; omega⟩
    · obtain rfl : k = L.length := by omega
      go_wp2
      go_ret
      exact ⟨⟨_, rfl, HO.out⟩, HB.out⟩
end Go.Proofs.YtmngghglcgmkeaaGreatDoor

/- The facts in force of a person and a kind: Facts. -/
namespace Go.Proofs.YtmngghglcgmkeaaGreatDoor
open Go.RowKit Go.Sort

set_option maxHeartbeats 2000000 in
set_option maxRecDepth 10000 in
theorem vi_Facts (L : List Fa) (A : Option Addr) (cap : Nat) (pe ki : Int) (w : World) (hn : L.length ≤ 4096) (hs : SlF w A L) :
    Calls Tryz.prog 20 #[.agg #[.slice A L.length cap], .int .u32 pe, .int .i64 ki] w fun e w' => (∃ v, e = .returned v ∧ Own encK 9 67 w.heap.size v (chosen (ofPK pe ki) L L.length) w') ∧ Below w.heap.size w w' := by
  obtain ⟨vb, hvb⟩ : ∃ x, w.heap.size = x := ⟨_, rfl⟩
  obtain ⟨pb, hpb⟩ : ∃ x, vb + 1 = x := ⟨_, rfl⟩
  obtain ⟨kb, hkb⟩ : ∃ x, pb + 1 = x := ⟨_, rfl⟩
  obtain ⟨w2, hw2⟩ : ∃ x, ((w.alloc (.cells #[.slice A L.length cap] 43)).alloc (.cells #[.int .u32 pe] 23)).alloc (.cells #[.int .i64 ki] 3) = x := ⟨_, rfl⟩
  have HB2 : Hid (Below w.heap.size w w2) := Lib.hid (by rw [← hw2]; exact bTrans (bTrans (bAlloc w _) (bAlloc _ _)) (bAlloc _ _))
  have V0 : w2.cell? ⟨vb, 0, none⟩ = some (.slice A L.length cap) := by
    rw [← hw2, ← hvb]
    exact (((Bk.new w 43 #[.slice A L.length cap]).grows (.of_alloc _ _)).grows (.of_alloc _ _)).cell 0
  have HP : Hid (w2.cell? ⟨pb, 0, none⟩ = some (.int .u32 pe)) := Lib.hid (by
    have h := Bk.new (w.alloc (.cells #[.slice A L.length cap] 43)) 23 #[.int .u32 pe]
    rw [show (w.alloc (.cells #[.slice A L.length cap] 43)).heap.size = pb by simp; omega] at h
    rw [← hw2]
    exact (h.grows (.of_alloc _ _)).cell 0)
  have HK : Hid (w2.cell? ⟨kb, 0, none⟩ = some (.int .i64 ki)) := Lib.hid (by
    have h := Bk.new ((w.alloc (.cells #[.slice A L.length cap] 43)).alloc (.cells #[.int .u32 pe] 23)) 3 #[.int .i64 ki]
    rw [show ((w.alloc (.cells #[.slice A L.length cap] 43)).alloc (.cells #[.int .u32 pe] 23)).heap.size = kb by simp; omega] at h
    rw [← hw2]
    exact h.cell 0)
  have HTH := Lib.hid (vi_thoseOf pe ki pb kb L A cap w2 hn (hs.below HB2.out) HP.out HK.out)
  have hmf : ∀ (fn : Fn) (first cap : Array Value) (w : World), (Instr.makeFunc fn first cap).run Tryz.prog w = .ok (.func fn first cap) w := fun _ _ _ _ => rfl
  clear hs
  go_enter Tryz.func20, Tryz.ntmps20
  go_wp2_with fail
  refine HTH.out.mono ?_
  rintro e w3 ⟨⟨v, rfl, ho⟩, hb3⟩
  have HO : Hid (Own encK 9 67 w.heap.size v (chosen (ofPK pe ki) L L.length) w3) := Lib.hid (own_base ho HB2.out.size)
  have HB3 : Hid (Below w.heap.size w w3) := Lib.hid (bTrans HB2.out hb3)
  clear ho hb3 V0 hw2 hvb hpb hkb
  go_wp2
  go_ret
  exact ⟨⟨v, rfl, HO.out⟩, HB3.out⟩
end Go.Proofs.YtmngghglcgmkeaaGreatDoor
