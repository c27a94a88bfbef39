/- How lists of amounts and of cards are read. -/
import Derived.Test.YtkpfjabeppdjlaaTaxC
import Derived.Test.YtkpfjabeppdjlaaTaxT
namespace Go.Proofs.Ytkpfjabeppdjlaa
open Go.RowKit Go.ChangeShapes Go.WideShapes Go.Deep Go.Joins

theorem open_cents {H : Type} {enc : TypeId × Value → H} {w : World} {spare : Nat → Bool} {held : Bool} {v : Value} {d : DataW H} {p : List MemPlace} {r : Reach} {b0 : Nat}
    (hv : Value.okWide Try.prog w r b0 23 v) (h : DataW.Trod enc Try.prog w 0 spare held 23 v d p) :
    ∃ (A : Option Addr) (cap : Nat) (L : List Int), v = .slice A L.length cap ∧ L.length ≤ maxLen ∧ Sl encCent 1 w w.heap.size A L := by
  obtain ⟨a0, len, cap, rfl⟩ := okWide_slice Try.underlying23 hv
  obtain ⟨fuel, hf⟩ := h
  rcases open_ints Try.underlying23 Try.underlying22 (by kernel_rfl) hf with ⟨hcs, _⟩ | ⟨a, l, c, zs, hcs, _, hl, hm, hz, _, hcell, _⟩
  · simp [Value.cells] at hcs
    obtain ⟨rfl, rfl, rfl⟩ := hcs
    exact ⟨none, 0, [], rfl, by simp, fun h => absurd rfl h⟩
  · simp [Value.cells] at hcs
    obtain ⟨rfl, rfl, rfl⟩ := hcs
    have hle : len ≤ zs.length := by rw [hz]; split <;> omega
    refine ⟨some a, cap, zs.take len, by simp [hle], by simp; omega, fun hne => ?_⟩
    have h0 : 0 < len := by
      rcases Nat.eq_zero_or_pos len with rfl | h
      · simp at hne
      · exact h
    have c0 := hcell 0 (by omega)
    obtain ⟨b, off, spot⟩ := a
    have hspot : spot = none := by simpa [Addr.add] using World.cell?_spot c0
    subst hspot
    refine ⟨b, off, rfl, by simpa [Addr.add] using World.block_lt_of_cell? w _ c0, fun i x hx j u hu => ?_⟩
    have hil : i < len := by have := (List.getElem?_eq_some_iff.1 hx).1; simp at this; omega
    have hj : j = 0 := by
      have := (List.getElem?_eq_some_iff.1 hu).1
      simp [encCent] at this
      omega
    subst hj
    have hu' : u = .int .i64 x := by simpa [encCent] using hu.symm
    subst hu'
    have c := hcell i (by omega)
    rw [add_plain] at c
    have hxx : zs.getD i 0 = x := by
      rw [List.getElem?_take_of_lt hil] at hx
      simp [List.getD, hx]
    rw [hxx] at c
    simpa using c

theorem open_cards {H : Type} {enc : TypeId × Value → H} {w : World} {spare : Nat → Bool} {held : Bool} {v : Value} {d : DataW H} {p : List MemPlace} {r : Reach} {b0 : Nat}
    (hv : Value.okWide Try.prog w r b0 24 v) (h : DataW.Trod enc Try.prog w 0 spare held 24 v d p) :
    ∃ (A : Option Addr) (cap : Nat) (L : List Cd), v = .slice A L.length cap ∧ L.length ≤ maxLen ∧ Sl encCard 3 w w.heap.size A L ∧ CardsOk w w.heap.size L := by
  obtain ⟨a0, len0, cap0, rfl⟩ := okWide_slice Try.underlying24 hv
  obtain ⟨fuel, hf⟩ := h
  rcases open_slice_fields Try.underlying24 Try.underlying28 (by kernel_rfl) (by kernel_rfl) hf with ⟨hcs, _⟩ | ⟨a, len, cap, m, D, Pl, hcs, _, hl, hm, hmm, _, hi⟩
  · simp [Value.cells] at hcs
    obtain ⟨rfl, rfl, rfl⟩ := hcs
    exact ⟨none, 0, [], rfl, by simp, fun h => absurd rfl h, fun c hc => by cases hc⟩
  · simp [Value.cells] at hcs
    obtain ⟨rfl, rfl, rfl⟩ := hcs
    have hlm : len0 ≤ m := by rw [hmm]; split <;> omega
    have key : ∀ i, i < len0 → ∃ c : Cd, w.cell? (a.add (i * 3)) = some (.int .i64 c.al) ∧ w.cell? (a.add (i * 3 + 1)) = some (.int .i64 c.ex) ∧ w.cell? (a.add (i * 3 + 2)) = some (.slice c.A c.t.length c.cap) ∧ c.t.length ≤ 9223372036854775807 ∧ Sl encBand 2 w w.heap.size c.A c.t := by
      intro i hil
      obtain ⟨ys, n, _, _, _, hf⟩ := hi i (by omega)
      obtain ⟨v0, y0, c0, _, t0⟩ := hf 0 _ rfl
      obtain ⟨v1, y1, c1, _, t1⟩ := hf 1 _ rfl
      obtain ⟨v2, y2, c2, _, t2⟩ := hf 2 _ rfl
      obtain ⟨al, q0, _, _⟩ := DataW.trod_int Try.underlying22 t0
      obtain ⟨ex, q1, _, _⟩ := DataW.trod_int Try.underlying22 t1
      obtain ⟨A, cp, L, q2, hL, _, hs⟩ := open_pairs Try.underlying26 Try.underlying48 (by kernel_rfl) (by kernel_rfl) rfl rfl Try.underlying22 Try.underlying46 t2
      simp only [List.cons.injEq, and_true] at q0 q1 q2
      subst q0; subst q1; subst q2
      exact ⟨⟨al, ex, A, cp, L⟩, by simpa using c0, by simpa using c1, by simpa using c2, by unfold maxLen at hL; exact hL, hs⟩
    haveI : Inhabited Cd := ⟨⟨0, 0, none, 0, []⟩⟩
    obtain ⟨f, hf⟩ := Go.Deep.choose_lt (α := Cd) key
    refine ⟨some a, cap0, (List.range len0).map f, by simp, by simp; omega, ?_, ?_⟩
    · intro hne
      have h0' : 0 < len0 := by
        rcases Nat.eq_zero_or_pos len0 with rfl | h
        · simp at hne
        · exact h
      have c0 := (hf 0 h0').1
      obtain ⟨b, off, spot⟩ := a
      have hspot : spot = none := by simpa [Addr.add] using World.cell?_spot c0
      subst hspot
      refine ⟨b, off, rfl, by simpa [Addr.add] using World.block_lt_of_cell? w _ c0, fun i x hx j u hu => ?_⟩
      have hil : i < len0 := by have := (List.getElem?_eq_some_iff.1 hx).1; simpa using this
      have hxx : x = f i := by simpa [hil] using hx.symm
      subst hxx
      obtain ⟨g0, g1, g2, _, _⟩ := hf i hil
      rw [add_plain] at g0 g1 g2
      have hj : j < 3 := by
        have := (List.getElem?_eq_some_iff.1 hu).1
        simpa [encCard] using this
      have hj3 : j = 0 ∨ j = 1 ∨ j = 2 := by omega
      rcases hj3 with rfl | rfl | rfl
      · have : u = .int .i64 (f i).al := by simpa [encCard] using hu.symm
        subst this
        simpa using g0
      · have : u = .int .i64 (f i).ex := by simpa [encCard] using hu.symm
        subst this
        simpa [Nat.add_assoc] using g1
      · have : u = .slice (f i).A (f i).t.length (f i).cap := by simpa [encCard] using hu.symm
        subst this
        simpa [Nat.add_assoc] using g2
    · intro c hc
      obtain ⟨i, hi', rfl⟩ := List.mem_map.1 hc
      exact (hf i (List.mem_range.1 hi')).2.2.2
end Go.Proofs.Ytkpfjabeppdjlaa
