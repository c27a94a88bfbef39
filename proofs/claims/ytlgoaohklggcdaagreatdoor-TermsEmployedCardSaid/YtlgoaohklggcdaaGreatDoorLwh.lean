import Derived.Test.YtlgoaohklggcdaaGreatDoorLtc
/- What the walks of the laws of the terms share. -/
namespace Go.Proofs.YtlgoaohklggcdaaGreatDoor
open Go.RowKit Go.Sort

def spFac (X : Ls) : Sp := ⟨fun v w => ∃ V : Nat → Value, v = .agg #[V 0, V 1, V 2, V 3, V 4] ∧ ∀ i, i < 5 → ∃ A c, V i = .slice A (X.at_ i).length c ∧ Sl encR 5 w w.heap.size A (X.at_ i), fun _ _ _ ⟨V, h1, h2⟩ hb => ⟨V, h1, fun i hi => by
  obtain ⟨A, c, h3, h4⟩ := h2 i hi
  exact ⟨A, c, h3, sl_bel h4 hb⟩⟩⟩
theorem of_near {X : Ls} {F m : Int} (h1 : -25567 ≤ F) (h2 : F ≤ 83432) (h3 : 0 ≤ m) (h4 : m ≤ 399) : ofL X F (F + m) = runsOf (eT X) F (F + m) ∧ ofE F (F + m) = 0 := by
  by_cases hm : m = 0
  · subst hm
    rw [runsOf_nil (by omega)]
    exact ⟨if_pos (by omega), if_pos (by omega)⟩
  · exact of_in (by omega) ⟨by omega, by omega⟩
theorem told_len (l : List Fa) : (tellL [] l).length ≤ l.length := by
  have := tellL_len l []
  simpa using this
theorem told_tx {l : List Fa} (fl : ∀ f ∈ l, FitW f) : ∀ f ∈ tellL [] l, f.tx.size ≤ 1000000 := fun f hf => by
  have h1 := tell_chk l [] (fun _ h => by cases h) f hf
  have h2 : FitW f := tellL_all (p := FitW) (fun _ h => by cases h) fl f hf
  exact (chk_fit h2 h1).tx
theorem lsOf_len (L : List Fa) (pe : Int) (i : Nat) (hi : i < 5) : ((lsOf L pe).at_ i).length ≤ L.length := by rw [lsOf_at L pe hi]; exact chosen_len _ _ _
theorem lsOf_tx {L : List Fa} {pe : Int} (h : ∀ f ∈ L, f.tx.size ≤ 1000000) : ∀ x ∈ (lsOf L pe).d, x.2.tx.size ≤ 1000000 := fun x hx => by
  obtain ⟨i, _, _, h2, _⟩ := mem_chosen hx
  exact h _ (List.mem_of_getElem? h2)
theorem cell13 {X : Ls} {R : List Spn} {k : Nat} {p : Spn} {td : Td} {W : World} {g o : Nat} (hp : R[k]? = some p) (htd : encO X p = (tdC td).toList) (hat : ∀ i x, R[i]? = some x → ∀ j u, (encO X x)[j]? = some u → W.cell? ⟨g, o + i * 13 + j, none⟩ = some u) : W.cell? ⟨g, o + k * 13, none⟩ = some (.int .i64 td.fr) ∧ W.cell? ⟨g, o + k * 13 + 1, none⟩ = some (.int .i64 td.to) ∧ W.cell? ⟨g, o + k * 13 + 2, none⟩ = some (.bool td.em) ∧ W.cell? ⟨g, o + k * 13 + 3, none⟩ = some (.int .i64 td.sa) ∧ W.cell? ⟨g, o + k * 13 + 4, none⟩ = some (.int .i64 td.pa) ∧ W.cell? ⟨g, o + k * 13 + 5, none⟩ = some (.int .i64 (td.h 0)) ∧ W.cell? ⟨g, o + k * 13 + 6, none⟩ = some (.int .i64 (td.h 1)) ∧ W.cell? ⟨g, o + k * 13 + 7, none⟩ = some (.int .i64 (td.h 2)) ∧ W.cell? ⟨g, o + k * 13 + 8, none⟩ = some (.int .i64 (td.h 3)) ∧ W.cell? ⟨g, o + k * 13 + 9, none⟩ = some (.int .i64 (td.h 4)) ∧ W.cell? ⟨g, o + k * 13 + 10, none⟩ = some (.int .i64 (td.h 5)) ∧ W.cell? ⟨g, o + k * 13 + 11, none⟩ = some (.int .i64 (td.h 6)) ∧ W.cell? ⟨g, o + k * 13 + 12, none⟩ = some (.string td.co) := by
  have h := fun j u hu => hat k p hp j u (by rw [htd]; exact hu)
  exact ⟨h 0 _ rfl, h 1 _ rfl, h 2 _ rfl, h 3 _ rfl, h 4 _ rfl, h 5 _ rfl, h 6 _ rfl, h 7 _ rfl, h 8 _ rfl, h 9 _ rfl, h 10 _ rfl, h 11 _ rfl, h 12 _ rfl⟩
end Go.Proofs.YtlgoaohklggcdaaGreatDoor
