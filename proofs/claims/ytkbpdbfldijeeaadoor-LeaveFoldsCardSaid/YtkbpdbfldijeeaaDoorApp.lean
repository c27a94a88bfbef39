/- Many elements appended to a row of the call's own, out of a slice that reads as a list. -/
import Derived.Test.YtkbpdbfldijeeaaDoorOwn
import Derived.Test.YtkbpdbfldijeeaaDoorMv
namespace Go.Proofs.YtkbpdbfldijeeaaDoor
open Go.RowKit Go.Sort

theorem rowOf_ex {α : Type} {enc : α → List Value} {k : Nat} (hk : ∀ x, (enc x).length = k) : ∀ (l : List α) (j : Nat) (u : Value), (rowOf enc l)[j]? = some u → ∃ i r x, j = i * k + r ∧ l[i]? = some x ∧ (enc x)[r]? = some u := by
  intro l
  induction l with
  | nil => intro j u h; simp [rowOf] at h
  | cons y l ih =>
    intro j u h
    have e : rowOf enc (y :: l) = enc y ++ rowOf enc l := rfl
    rw [e] at h
    by_cases hj : j < k
    · rw [List.getElem?_append_left (by rw [hk]; exact hj)] at h
      exact ⟨0, j, y, by omega, rfl, h⟩
    · rw [List.getElem?_append_right (by rw [hk]; omega), hk] at h
      obtain ⟨i, r, x, h1, h2, h3⟩ := ih _ _ h
      exact ⟨i + 1, r, x, by rw [Nat.add_mul]; omega, by simpa using h2, h3⟩
/-- The cells of a slice's elements, one by one. -/
theorem Sl.news {α : Type} {enc : α → List Value} {k : Nat} (hk : ∀ x, (enc x).length = k) {w : World} {b off : Nat} {S : List α}
    (h : ∀ i x, S[i]? = some x → ∀ j u, (enc x)[j]? = some u → w.cell? ⟨b, off + i * k + j, none⟩ = some u) : ∀ j u, (rowOf enc S)[j]? = some u → w.cell? ⟨b, off + j, none⟩ = some u := fun j u hu => by
  obtain ⟨i, r, x, rfl, h1, h2⟩ := rowOf_ex hk S j u hu
  rw [← Nat.add_assoc]
  exact h i x h1 r u h2

theorem wpList_append_rows {α : Type} {enc : α → List Value} {k : Nat} {P : Program} {ops : Array Oper} {rest : List Oper} {o : Oper} {a : Act} {w : World} {Q : Exit → Act → World → Prop}
    (hk : ∀ x, (enc x).length = k) (h1 : ∀ x, ∀ u ∈ enc x, u.oneCell' = true) (hgd : o.guard = none) (s x : Operand) (t : TypeId)
    (ho : o.op = .call { callee := .builtin .append, args := #[s, x], argTypes := #[t, t] })
    (base : Nat) (e : TypeId) (z : Value) (bytes : Nat) (ht : P.underlying t = some (.slice e)) (hi : (P.info? e).map (fun i => (i.zero, i.size, i.bytes)) = some (some z, k, bytes)) (hzs : z.cells.size = k) (hsz : 0 < k)
    (v : Value) (l S : List α) (hs : a.eval s = v) (hown : Own enc k e base v l w)
    (b off m c : Nat) (hx : a.eval x = .slice (some ⟨b, off, none⟩) m c) (hm : S.length = m) (hnews : ∀ j u, (rowOf enc S)[j]? = some u → w.cell? ⟨b, off + j, none⟩ = some u)
    (hn : l.length + m ≤ 1000000000) (hb : bytes ≤ 1000) (hbase : base ≤ w.heap.size)
    (h : ∀ v' w', Own enc k e base v' (l ++ S) w' → w.grownBy w' v.ownBlock → wpList P ops Q rest (a.put o.dst v') w') : wpList P ops Q (o :: rest) a w := by
  obtain ⟨i, hi1, hz, hsize, hby⟩ := info_parts hi
  subst hm
  refine wpList_append_own w hgd s x t ho base e i z k bytes ht hi1 hz hsize hby hzs hsz v l.length (rowOf enc l) hs hown ⟨b, off, none⟩ S.length c (rowOf enc S) hx (by rw [rowOf_length hk]) (fun j u hu => ?_) (fun u hu => ?_) (by simp only [maxLen]; omega) ?_ hbase (fun v' w' h2 h3 _ => h v' w' ?_ h3)
  · have := hnews j u hu
    unfold Addr.add
    split
    · rename_i h0; subst h0; simpa using this
    · simpa using this
  · obtain ⟨x, _, hx⟩ := List.mem_flatMap.1 hu
    exact h1 x u hx
  · exact Nat.le_trans (Nat.mul_le_mul hn hb) (by omega)
  · unfold Own
    rw [List.length_append, rowOf_append]; exact h2
/-- A literal without elements. -/
theorem Own.lit0 {α : Type} {enc : α → List Value} {k : Nat} {e : TypeId} {base : Nat} (w : World) (hb : base ≤ w.heap.size) : Own enc k e base (.slice (some ⟨w.heap.size, 0, none⟩) 0 0) ([] : List α) (w.alloc (.cells #[] e)) :=
  World.ownsRow_lit w #[] 0 hb (by simp [maxLen]) (by simp)
/-- A row of the call's own reads as a list. -/
theorem Own.sl {α : Type} {enc : α → List Value} {k : Nat} {e : TypeId} {base : Nat} {v : Value} {l : List α} {w : World} (hk : ∀ x, (enc x).length = k) (h : Own enc k e base v l w) (hl : l ≠ []) : ∃ g cap, v = .slice (some ⟨g, 0, none⟩) l.length cap ∧ base ≤ g ∧ g < w.heap.size ∧ Rw enc k e g cap l w ∧ Sl enc k w w.heap.size (some ⟨g, 0, none⟩) l := by
  obtain ⟨g, cap, hv, hb, hr⟩ := h.row hk hl
  exact ⟨g, cap, hv, hb, hr.lt, hr, fun _ => ⟨g, 0, rfl, hr.lt, fun i x hx j u hu => by rw [Nat.zero_add]; exact hr.cell hx hu⟩⟩
theorem encM_one (x : Mv) : ∀ u ∈ encM x, u.oneCell' = true := by
  intro u hu
  simp only [encM, List.mem_cons, List.not_mem_nil, or_false] at hu
  rcases hu with rfl | rfl | rfl <;> rfl
theorem moveInfo : (Tryd.prog.info? 42).map (fun i => (i.zero, i.size, i.bytes)) = some (some (.agg #[.int .i64 0, .int .i64 0, .int .i64 0]), 3, 24) := by kernel_rfl
end Go.Proofs.YtkbpdbfldijeeaaDoor
