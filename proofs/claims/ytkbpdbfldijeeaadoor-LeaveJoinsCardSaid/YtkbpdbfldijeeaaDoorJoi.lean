/- One move cut in two, and one that grants less: the plain law; one cell of a row written. -/
import Derived.Test.YtkbpdbfldijeeaaDoorTrn
import Derived.Test.YtkbpdbfldijeeaaDoorApp
namespace Go.Proofs.YtkbpdbfldijeeaaDoor
open Go.RowKit Go.Sort

theorem right_cut {yr ca ex un d gr tk : Int} {P Q : List Mv} (h2 : 2 ≤ gr) (hn : (P ++ ([(d, gr, tk)] ++ Q)).length ≤ 100) (h : Right yr ca ex un (P ++ ([(d, gr, tk)] ++ Q))) :
    Right yr ca ex un (P ++ ([(d, gr / 2, 0), (d, gr - gr / 2, tk)] ++ Q)) ∧ Right yr ca ex un (P ++ ([(d, gr / 2, tk)] ++ Q)) := by
  have hm := h.each (d, gr, tk) (by simp)
  have hu := hm.2
  unfold unfit at hu
  simp only at hu
  have ho := h.ord
  simp only [List.cons_append, List.nil_append, List.pairwise_append, List.pairwise_cons, List.mem_cons] at ho
  obtain ⟨o1, ⟨o2, o3⟩, o4⟩ := ho
  have ea : ∀ g t, ¬ unfit (d, g, t) → ∀ x, x = (d, g, t) → ¬ early yr x.1 ∧ ¬ unfit x := fun g t hx x e => by subst e; exact ⟨hm.1, hx⟩
  constructor
  · refine ⟨h.plan, h.day, by simp at hn ⊢; omega, fun x hx => ?_, ?_⟩
    · simp only [List.mem_append, List.mem_cons, List.not_mem_nil, or_false] at hx
      rcases hx with hx | (hx | hx) | hx
      · exact h.each x (by simp [hx])
      · exact ea _ _ (by unfold unfit; simp only; omega) x hx
      · exact ea _ _ (by unfold unfit; simp only; omega) x hx
      · exact h.each x (by simp [hx])
    · simp only [List.cons_append, List.nil_append, List.pairwise_append, List.pairwise_cons, List.mem_cons]
      refine ⟨o1, ⟨fun z hz => ?_, o2, o3⟩, fun a ha z hz => ?_⟩
      · rcases hz with rfl | hz
        · exact Int.le_refl _
        · exact o2 z hz
      · rcases hz with rfl | rfl | hz
        · exact o4 a ha (d, gr, tk) (.inl rfl)
        · exact o4 a ha (d, gr, tk) (.inl rfl)
        · exact o4 a ha z (.inr hz)
  · refine ⟨h.plan, h.day, by simp at hn ⊢; omega, fun x hx => ?_, ?_⟩
    · simp only [List.mem_append, List.mem_cons, List.not_mem_nil, or_false] at hx
      rcases hx with hx | hx | hx
      · exact h.each x (by simp [hx])
      · exact ea _ _ (by unfold unfit; simp only; omega) x hx
      · exact h.each x (by simp [hx])
    · simp only [List.cons_append, List.nil_append, List.pairwise_append, List.pairwise_cons, List.mem_cons]
      refine ⟨o1, ⟨o2, o3⟩, fun a ha z hz => ?_⟩
      rcases hz with rfl | hz
      · exact o4 a ha (d, gr, tk) (.inl rfl)
      · exact o4 a ha z (.inr hz)
theorem join_acc {yr ca ex un d gr tk : Int} {P Q : List Mv} (h2 : 2 ≤ gr) (hn : (P ++ ([(d, gr, tk)] ++ Q)).length ≤ 100) (hc : chkV yr ca ex un (P ++ ([(d, gr, tk)] ++ Q)) = 0) :
    (chkV yr ca ex un (P ++ ([(d, gr / 2, 0), (d, gr - gr / 2, tk)] ++ Q)) = 0 ∧ accV yr ca ex un (P ++ ([(d, gr / 2, 0), (d, gr - gr / 2, tk)] ++ Q)) = accV yr ca ex un (P ++ ([(d, gr, tk)] ++ Q))) ∧
    chkV yr ca ex un (P ++ ([(d, gr / 2, tk)] ++ Q)) = 0 ∧ (accV yr ca ex un (P ++ ([(d, gr / 2, tk)] ++ Q))).2.2.2 ≤ (accV yr ca ex un (P ++ ([(d, gr, tk)] ++ Q))).2.2.2 ∧ (accV yr ca ex un (P ++ ([(d, gr / 2, tk)] ++ Q))).2.2.1 ≤ (accV yr ca ex un (P ++ ([(d, gr, tk)] ++ Q))).2.2.1 := by
  have hr := right_of hc
  obtain ⟨r1, r2⟩ := right_cut h2 hn hr
  have hu := (hr.each (d, gr, tk) (by simp)).2
  unfold unfit at hu
  simp only at hu
  have hl := foldF_les (M := P ++ ([(d, gr / 2, tk)] ++ Q)) (M' := P ++ ([(d, gr, tk)] ++ Q)) ⟨by simp, fun i x y hx hy => by
    rw [List.getElem?_append] at hx hy
    split at hx
    · rename_i hi
      rw [if_pos hi] at hy
      rw [hx] at hy
      cases hy
      exact ⟨rfl, Int.le_refl _, rfl⟩
    · rename_i hi
      rw [if_neg hi] at hy
      rcases hj : i - P.length with _ | j
      · rw [hj] at hx hy
        simp at hx hy
        subst hx hy
        exact ⟨rfl, by simp only; omega, rfl⟩
      · rw [hj] at hx hy
        simp at hx hy
        rw [hx] at hy
        cases hy
        exact ⟨rfl, Int.le_refl _, rfl⟩⟩ r2 hr
  refine ⟨⟨chk_of r1, ?_⟩, chk_of r2, ?_⟩
  · rw [accV_ok hc, accV_ok (chk_of r1)]
    unfold foldV
    rw [foldF_same (same_cut (d := d) (gr := gr) (tk := tk) (by omega)) hr r1]
  · rw [accV_ok hc, accV_ok (chk_of r2)]
    obtain ⟨a, b, c⟩ := hl
    unfold foldV
    exact ⟨by simp only; omega, a⟩
/-- One cell written. -/
theorem mvPut {g cap k : Nat} {D : List Mv} {w : World} {d gr tk gr' : Int} (h : Rw encM 3 42 g cap D w) (hx : D[k]? = some (d, gr, tk)) :
    Rw encM 3 42 g cap (D.set k (d, gr', tk)) (w.setCell ⟨g, k * 3 + 1, none⟩ (.int .i64 gr')) := by
  obtain ⟨cur, hc, hs, hl, hh⟩ := h
  have hk := (List.getElem?_eq_some_iff.1 hx).1
  refine ⟨cur.setIfInBounds (k * 3 + 1) (.int .i64 gr'), (Bk.set_ (t := 42) hc _ _), by simpa using hs, by simpa using hl, fun t x ht j u hu => ?_⟩
  have hj : j < 3 := by rw [← encM_len x]; exact (List.getElem?_eq_some_iff.1 hu).1
  rw [List.getElem?_set] at ht
  rw [Array.getElem?_setIfInBounds]
  by_cases hkt : k = t
  · subst hkt
    rw [if_pos rfl, if_pos hk] at ht
    cases ht
    by_cases h1 : j = 1
    · subst h1
      rw [if_pos rfl, if_pos (by omega)]
      exact hu
    · rw [if_neg (by omega)]
      refine hh k _ hx j u ?_
      rw [← hu]
      match j, h1, hj with
      | 0, _, _ => rfl
      | 2, _, _ => rfl
  · rw [if_neg hkt] at ht
    rw [if_neg (by omega)]
    exact hh t x ht j u hu
end Go.Proofs.YtkbpdbfldijeeaaDoor
