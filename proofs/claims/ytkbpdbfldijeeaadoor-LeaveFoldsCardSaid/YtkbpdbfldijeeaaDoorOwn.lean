/- A row of elements of several cells that the call itself owns; one element appended. -/
import Derived.Test.YtkbpdbfldijeeaaDoorStK
import Derived.Test.YtkbpdbfldijeeaaDoorBk
import Derived.Laws.OwnMore
namespace Go.Proofs.YtkbpdbfldijeeaaDoor
open Go.RowKit Go.Sort

/-- The cells of elements. -/
def rowOf {α : Type} (enc : α → List Value) (l : List α) : List Value := l.flatMap enc
section
variable {α : Type} {enc : α → List Value} {k : Nat}
theorem rowOf_append (l m : List α) : rowOf enc (l ++ m) = rowOf enc l ++ rowOf enc m := List.flatMap_append
theorem rowOf_one (x : α) : rowOf enc [x] = enc x := by simp [rowOf]
theorem rowOf_length (hk : ∀ x, (enc x).length = k) (l : List α) : (rowOf enc l).length = l.length * k := by
  induction l with
  | nil => simp [rowOf]
  | cons x l ih =>
    have : rowOf enc (x :: l) = enc x ++ rowOf enc l := rfl
    rw [this, List.length_append, ih, hk, List.length_cons, Nat.add_mul]; omega
theorem rowOf_get (hk : ∀ x, (enc x).length = k) : ∀ (l : List α) (i : Nat) (x : α), l[i]? = some x → ∀ (j : Nat) (u : Value), (enc x)[j]? = some u → (rowOf enc l)[i * k + j]? = some u := by
  intro l
  induction l with
  | nil => intro i x h; simp at h
  | cons y l ih =>
    intro i x h j u hu
    have e : rowOf enc (y :: l) = enc y ++ rowOf enc l := rfl
    have hj : j < k := by rw [← hk x]; exact (List.getElem?_eq_some_iff.1 hu).1
    cases i with
    | zero =>
      cases h
      rw [e, List.getElem?_append_left (by rw [hk]; omega), Nat.zero_mul, Nat.zero_add]; exact hu
    | succ i =>
      rw [List.getElem?_cons_succ] at h
      rw [e, List.getElem?_append_right (by rw [hk, Nat.add_mul]; omega), hk, Nat.add_mul, show i * k + 1 * k + j - k = i * k + j by omega]
      exact ih i x h j u hu
end

/-- A slice value that owns a row of l's elements. -/
def Own {α : Type} (enc : α → List Value) (k : Nat) (e : TypeId) (base : Nat) (v : Value) (l : List α) (w : World) : Prop := w.ownsRow base e k v l.length (rowOf enc l)
section
variable {α : Type} {enc : α → List Value} {k : Nat} {e : TypeId} {base : Nat} {v : Value} {l : List α} {w w' : World}
theorem Own.nil (w : World) : Own enc k e base (.slice none 0 0) [] w := World.ownsRow_nil w base e k
theorem Own.kept {r : Option Nat} (h : Own enc k e base v l w) (hg : w.grownBy w' r) (hr : v.ownBlock = none ∨ v.ownBlock ≠ r) : Own enc k e base v l w' := World.ownsRow.kept h hg hr
theorem Own.none_ (h : Own enc k e base v l w) (hg : w.grownBy w' none) : Own enc k e base v l w' := h.kept hg (by cases v.ownBlock <;> simp)
theorem Own.grows (h : Own enc k e base v l w) (hg : Grows w w') : Own enc k e base v l w' := h.none_ (hg.grownBy none)
theorem Own.alloc (h : Own enc k e base v l w) (o : Obj) : Own enc k e base v l (w.alloc o) := World.ownsRow.alloc h o
theorem Own.lt (h : Own enc k e base v l w) {b : Nat} (hb : v.ownBlock = some b) : base ≤ b ∧ b < w.heap.size := World.ownsRow.lt h b hb
theorem Own.far (h : Own enc k e base v l w) {b : Nat} (hb : b < base) : some b ≠ v.ownBlock := fun he => by have := (h.lt he.symm).1; omega
/-- It is a row of its own, if there is an element. -/
theorem Own.row (hk : ∀ x, (enc x).length = k) (h : Own enc k e base v l w) (hl : l ≠ []) : ∃ g cap, v = .slice (some ⟨g, 0, none⟩) l.length cap ∧ base ≤ g ∧ Rw enc k e g cap l w := by
  rcases h.2 with ⟨_, h0⟩ | ⟨g, cap, cur, hv, hb, hg, hn, _, hs, ht⟩
  · exact absurd (List.length_eq_zero_iff.1 h0) hl
  · refine ⟨g, cap, hv, hb, cur, hg, hs, hn, fun i x hx j u hu => ?_⟩
    have h1 := rowOf_get hk l i x hx j u hu
    have h2 : (cur.toList.take (l.length * k))[i * k + j]? = some u := by rw [ht]; exact h1
    rw [List.getElem?_take] at h2
    split at h2
    · simpa using h2
    · cases h2
theorem Own.ne_ {g : Nat} {t : TypeId} {cs : Array Value} (h : Own enc k e base v l w) (hg : Bk g t cs w) (hne : e ≠ t) : some g ≠ v.ownBlock := by
  rcases h.2 with ⟨rfl, _⟩ | ⟨g', cap, cur, rfl, _, hh, _⟩
  · simp [Value.ownBlock]
  · intro he
    have : g = g' := by simpa [Value.ownBlock] using he
    subst this
    exact Bk.ne_ (t := e) hh hg hne rfl
theorem Own.nilv (h : Own enc k e base v l w) (hv : v.ownBlock = none) : v = .slice none 0 0 := by
  rcases h.2 with ⟨rfl, _⟩ | ⟨g, cap, cur, rfl, _⟩
  · rfl
  · simp [Value.ownBlock] at hv
end

/-- One element more. -/
theorem wpList_append_row {α : Type} {enc : α → List Value} {k : Nat} {P : Program} {ops : Array Oper} {rest : List Oper} {o : Oper} {a : Act} {w : World} {Q : Exit → Act → World → Prop}
    (hk : ∀ x, (enc x).length = k) (h1 : ∀ x, ∀ u ∈ enc x, u.oneCell' = true) (hgd : o.guard = none) (s x : Operand) (t : TypeId)
    (ho : o.op = .call { callee := .builtin .append, args := #[s, x], argTypes := #[t, t] })
    (base : Nat) (e : TypeId) (z : Value) (bytes : Nat) (ht : P.underlying t = some (.slice e)) (hi : (P.info? e).map (fun i => (i.zero, i.size, i.bytes)) = some (some z, k, bytes)) (hzs : z.cells.size = k) (hsz : 0 < k)
    (v : Value) (l : List α) (y : α) (hs : a.eval s = v) (hown : Own enc k e base v l w)
    (b c : Nat) (hx : a.eval x = .slice (some ⟨b, 0, none⟩) 1 c) (hnews : ∀ j u, (enc y)[j]? = some u → w.cell? ⟨b, j, none⟩ = some u)
    (hn : l.length + 1 ≤ 1000000000) (hb : bytes ≤ 1000) (hbase : base ≤ w.heap.size)
    (h : ∀ v' w', Own enc k e base v' (l ++ [y]) w' → w.grownBy w' v.ownBlock → wpList P ops Q rest (a.put o.dst v') w') : wpList P ops Q (o :: rest) a w := by
  obtain ⟨i, hi1, hz, hsize, hby⟩ := info_parts hi
  refine wpList_append_own w hgd s x t ho base e i z k bytes ht hi1 hz hsize hby hzs hsz v l.length (rowOf enc l) hs hown ⟨b, 0, none⟩ 1 c (enc y) hx (by rw [hk]; omega) (fun j u hu => ?_) (h1 y) (by simp only [maxLen]; omega) ?_ hbase (fun v' w' h2 h3 _ => h v' w' ?_ h3)
  · have := hnews j u hu
    unfold Addr.add
    split
    · rename_i h0; subst h0; exact this
    · simpa using this
  · exact Nat.le_trans (Nat.mul_le_mul hn hb) (by omega)
  · unfold Own
    rw [List.length_append, rowOf_append, rowOf_one]; exact h2
end Go.Proofs.YtkbpdbfldijeeaaDoor
