/- Two moves of one day change places: the plain law. -/
import Derived.Test.YtkbpdbfldijeeaaDoorFol
namespace Go.Proofs.YtkbpdbfldijeeaaDoor

theorem right_turn {yr ca ex un : Int} {P Q : List Mv} {x y : Mv} (hd : x.1 = y.1) (h : Right yr ca ex un (P ++ ([x, y] ++ Q))) : Right yr ca ex un (P ++ ([y, x] ++ Q)) := by
  refine ⟨h.plan, h.day, by have := h.few; simpa using this, fun z hz => h.each z ?_, ?_⟩
  · simp only [List.mem_append, List.mem_cons, List.not_mem_nil, or_false] at hz ⊢
    rcases hz with h | (h | h) | h <;> simp [h]
  · have ho := h.ord
    simp only [List.cons_append, List.nil_append, List.pairwise_append, List.pairwise_cons, List.mem_cons] at ho ⊢
    obtain ⟨h1, ⟨h2, h3, h4⟩, h5⟩ := ho
    refine ⟨h1, ⟨fun z hz => ?_, fun z hz => ?_, h4⟩, fun a ha z hz => ?_⟩
    · rcases hz with rfl | hz
      · omega
      · exact h3 z hz
    · exact h2 z (.inr hz)
    · refine h5 a ha z ?_
      rcases hz with h | h | h <;> simp [h]
theorem acc_turn {yr ca ex un : Int} {P Q : List Mv} {x y : Mv} (hd : x.1 = y.1) (h : IntKind.i64.wrap (x.2.1 + y.2.1) = 0 ∨ IntKind.i64.wrap (x.2.2 + y.2.2) = 0) :
    accV yr ca ex un (P ++ ([x, y] ++ Q)) = accV yr ca ex un (P ++ ([y, x] ++ Q)) ∧ (chkV yr ca ex un (P ++ ([x, y] ++ Q)) = 0 ↔ chkV yr ca ex un (P ++ ([y, x] ++ Q)) = 0) := by
  have hiff : chkV yr ca ex un (P ++ ([x, y] ++ Q)) = 0 ↔ chkV yr ca ex un (P ++ ([y, x] ++ Q)) = 0 := ⟨fun h => chk_of (right_turn hd (right_of h)), fun h => chk_of (right_turn hd.symm (right_of h))⟩
  refine ⟨?_, hiff⟩
  by_cases hc : chkV yr ca ex un (P ++ ([x, y] ++ Q)) = 0
  · have hr := right_of hc
    have hx := (hr.each x (by simp)).2
    have hy := (hr.each y (by simp)).2
    have hs : x.2.1 + y.2.1 = 0 ∨ x.2.2 + y.2.2 = 0 := by
      unfold unfit at hx hy
      rcases h with h | h
      · exact .inl (by rwa [IntWalk.i64_in _ (by omega)] at h)
      · exact .inr (by rwa [IntWalk.i64_in _ (by omega)] at h)
    rw [accV_ok hc, accV_ok (hiff.1 hc)]
    unfold foldV
    rw [foldF_same (same_turn hd hx hy hs) hr (right_turn hd hr)]
  · rw [accV_no hc, accV_no (fun h => hc (hiff.2 h))]
end Go.Proofs.YtkbpdbfldijeeaaDoor
