/- Out of: Ys2. -/
import Derived.Test.YtgepbkldgnjpfaaGreatDoorZgaj
/- YearAnew, in plain: without orders a year's slips hang on its own months alone. -/
namespace Go.Proofs.YtgepbkldgnjpfaaGreatDoor
open Go.RowKit Go.Sort Go.BigFrame Go.Maps

theorem att_nil {net : Int} : (attL net [] []).2.1 = [] := by
  unfold attL
  split
  · rfl
  · rw [if_neg (by decide)]
    rw [show Ao.sortO [] = [] from (Ao.sortO_perm (l := []) (by simp)).eq_nil]
    rfl
theorem anew_od {S S' : Ste} {M : Mon} {y i : Int} {L : List Li} (hM : M.od = []) (hS : S.od = []) (h : stepM S M = (S', (y, i, L), 0)) : S'.od = [] := by
  rw [(step_ok h).st]
  show (attL (d5 S M).l (d5 S M).S.od M.od).2.1 = _
  rw [d5_od, hM, hS]
  exact att_nil
theorem step_y {S S' : Ste} {M : Mon} {y i : Int} {L : List Li} (h : stepM S M = (S', (y, i, L), 0)) : S'.y = M.y := by
  rw [(step_ok h).st]
  show (d0 S M).S.y = M.y
  unfold d0
  dsimp only
  split <;> rfl
theorem chk_y {S : Ste} {M : Mon} (h : chkM S M = 0) : 1900 ≤ M.y := by
  unfold chkM at h
  split at h
  · cases h
  · omega
theorem chk_none {S : Ste} {M : Mon} (h : chkM S M = 0) : chkM Ste.none M = 0 := by
  unfold chkM at h ⊢
  split at h
  · cases h
  rename_i h1
  rw [if_neg h1]
  split at h
  · cases h
  rw [if_neg (by rintro ⟨h2, _⟩; exact absurd h2 (by decide))]
  exact h
/-- At a year's turn a step is as from nothing. -/
theorem step_anew {S S' : Ste} {M : Mon} {y i : Int} {L : List Li} (hS : S.od = []) (hy : S.y ≠ M.y) (h : stepM S M = (S', (y, i, L), 0)) : stepM Ste.none M = (S', (y, i, L), 0) := by
  have k := step_ok h
  have hd : d0 Ste.none M = d0 S M := by
    have h0 : Ste.none.y ≠ M.y := by have := chk_y k.ch; show (0 : Int) ≠ M.y; omega
    unfold d0
    rw [if_pos hy, if_pos h0, hS]
    rfl
  have e1 : d1 Ste.none M = d1 S M := by unfold d1; rw [hd]
  have e2 : d2 Ste.none M = d2 S M := by unfold d2; rw [e1]
  have e3 : d3 Ste.none M = d3 S M := by unfold d3; rw [e2]
  have e4 : d4 Ste.none M = d4 S M := by unfold d4; rw [e3]
  have e5 : d5 Ste.none M = d5 S M := by unfold d5; rw [e4]
  have e6 : d6 Ste.none M = d6 S M := by unfold d6; rw [e5]
  have hl := k.ok
  rw [k.yy, k.ii] at hl
  rw [step_of (chk_none k.ch) (by rw [hd]; exact k.e1) (by rw [e1]; exact k.e2) (by rw [e2]; exact k.e3) (by rw [e3]; exact k.e4) (by rw [e5]; exact k.e6) (by rw [e6]; exact k.sl) hl, e6, k.st, k.yy, k.ii]
def lastY : Int → List Mon → Int
  | y, [] => y
  | _, M :: r => lastY M.y r
theorem lastY_take : ∀ (l : List Mon) (a : Nat) (y : Int) (M : Mon), l[a]? = some M → lastY y (l.take (a + 1)) = M.y
  | [], a, y, M, h => by simp at h
  | x :: r, 0, y, M, h => by simp at h; subst h; simp [lastY]
  | x :: r, a + 1, y, M, h => by
    show lastY x.y (r.take (a + 1)) = M.y
    exact lastY_take r a x.y M (by simpa using h)
/-- What holds behind months that go through. -/
theorem resGo_ends (S0 : Ste) : ∀ (l : List Mon) (now : Ste) (out : List Slp), (∀ M ∈ l, M.od = []) → now.od = [] → (resGo S0 now out l).2.2 = 0 → (resGo S0 now out l).2.1.od = [] ∧ (resGo S0 now out l).2.1.y = lastY now.y l ∧ (resGo S0 now out l).1.length = out.length + l.length
  | [], now, out, _, h, _ => ⟨h, rfl, rfl⟩
  | M :: r, now, out, hl, ho, he => by
    rw [resGo_cons] at he ⊢
    by_cases h0 : (stepM now M).2.2 ≠ 0
    · rw [if_pos h0] at he; exact absurd he h0
    · rw [if_neg h0] at he ⊢
      generalize hq : stepM now M = q at he h0 ⊢
      obtain ⟨S', ⟨y, i, L⟩, e⟩ := q
      have e0 : e = 0 := by simpa using h0
      subst e0
      obtain ⟨g1, g2, g3⟩ := resGo_ends S0 r S' (out ++ [(y, i, L)]) (fun M' hM' => hl M' (List.mem_cons_of_mem _ hM')) (anew_od (hl M List.mem_cons_self) ho hq) he
      refine ⟨g1, ?_, ?_⟩
      · rw [g2, step_y hq]; rfl
      · rw [g3, List.length_append, List.length_cons, List.length_cons]; simp only [List.length_nil]; omega
/-- Months behind a year's turn are as from nothing. -/
theorem seg_go {S0 now : Ste} {out : List Slp} {M : Mon} {r : List Mon} (hn : now.od = []) (hy : now.y ≠ M.y) (h : (resGo S0 now out (M :: r)).2.2 = 0) :
    (resGo Ste.none Ste.none [] (M :: r)).2.2 = 0 ∧ (resGo S0 now out (M :: r)).1 = out ++ (resGo Ste.none Ste.none [] (M :: r)).1 ∧ (resGo S0 now out (M :: r)).2.1 = (resGo Ste.none Ste.none [] (M :: r)).2.1 := by
  rw [resGo_cons] at h
  by_cases h0 : (stepM now M).2.2 ≠ 0
  · rw [if_pos h0] at h; exact absurd h h0
  rw [if_neg h0] at h
  have hs : stepM Ste.none M = stepM now M := by
    generalize hq : stepM now M = q at h0
    obtain ⟨S', ⟨y, i, L⟩, e⟩ := q
    have e0 : e = 0 := by simpa using h0
    subst e0
    exact step_anew hn hy hq
  rw [resGo_cons, resGo_cons, hs, if_neg h0, if_neg h0]
  have k := resGo_shift S0 Ste.none r (stepM now M).1 out [(stepM now M).2.1]
  rw [List.nil_append]
  refine ⟨by rw [k.1]; exact h, k.2 h⟩
theorem anew_law (l : List Mon) (hl : ∀ M ∈ l, M.od = []) (hn : l.length ≤ 4096) (h : (foldM l).2.2 = 0) (a b : Nat) (hab : a < b ∨ l = []) (hb : b ≤ l.length) (hy : a = 0 ∨ ∃ M M', l[a - 1]? = some M ∧ l[a]? = some M' ∧ M.y ≠ M'.y) :
    (foldM ((l.drop a).take (b - a))).2.2 = 0 ∧ (foldM ((l.drop a).take (b - a))).1 = ((foldM l).1.drop a).take (b - a) ∧ (b = l.length → (foldM ((l.drop a).take (b - a))).2.1 = (foldM l).2.1) := by
  by_cases hnil : l = []
  · subst hnil
    simp at hb
    subst hb
    have e1 : (([] : List Mon).drop a).take (0 - a) = [] := by simp
    have e2 : (foldM []).1 = [] := rfl
    rw [e1, e2]
    exact ⟨rfl, by simp, fun _ => rfl⟩
  replace hab : a < b := hab.resolve_right hnil
  have ef : ∀ k : List Mon, k.length ≤ 4096 → foldM k = resGo Ste.none Ste.none [] k := fun k hk => by unfold foldM resM; rw [if_neg (by omega)]
  rw [ef l hn] at h ⊢
  rw [ef _ (by rw [List.length_take, List.length_drop]; omega)]
  have hP : l = l.take a ++ ((l.drop a).take (b - a) ++ l.drop b) := by
    have h1 : (l.drop a).drop (b - a) = l.drop b := by rw [List.drop_drop]; congr 1; omega
    rw [← h1, List.take_append_drop, List.take_append_drop]
  generalize hPP : l.take a = P at hP
  generalize hQQ : (l.drop a).take (b - a) = Q at hP ⊢
  generalize hRR : l.drop b = R at hP
  have lP : P.length = a := by rw [← hPP, List.length_take]; omega
  have lQ : Q.length = b - a := by rw [← hQQ, List.length_take, List.length_drop]; omega
  have hlP : ∀ M ∈ P, M.od = [] := fun M hM => hl M (by rw [hP]; exact List.mem_append_left _ hM)
  have hlQ : ∀ M ∈ Q, M.od = [] := fun M hM => hl M (by rw [hP]; exact List.mem_append_right _ (List.mem_append_left _ hM))
  have okP : (resGo Ste.none Ste.none [] P).2.2 = 0 := by
    refine Decidable.byContradiction fun hc => ?_
    have := resGo_err Ste.none P (Q ++ R) Ste.none [] hc
    rw [← hP] at this
    rw [this] at h
    exact hc h
  have eP := resGo_append Ste.none P (Q ++ R) Ste.none [] okP
  rw [← hP] at eP
  obtain ⟨p1, p2, p3⟩ := resGo_ends Ste.none P Ste.none [] hlP rfl okP
  generalize hA : resGo Ste.none Ste.none [] P = A at okP eP p1 p2 p3
  obtain ⟨oP, nP, xP⟩ := A
  simp only at okP eP p1 p2 p3
  have okQ : (resGo Ste.none nP oP Q).2.2 = 0 := by
    refine Decidable.byContradiction fun hc => ?_
    have := resGo_err Ste.none Q R nP oP hc
    rw [eP, this] at h
    exact hc h
  have eQ := resGo_append Ste.none Q R nP oP okQ
  rw [← eP] at eQ
  have hQn : ∃ M r, Q = M :: r ∧ nP.y ≠ M.y ∧ nP.od = [] := by
    rcases Q with _ | ⟨M, r⟩
    · simp at lQ; omega
    refine ⟨M, r, rfl, ?_, p1⟩
    have hM : l[a]? = some M := by
      rw [hP, List.getElem?_append_right (by omega), lP, Nat.sub_self]
      rfl
    rcases hy with rfl | ⟨M1, M2, m1, m2, m3⟩
    · have : P = [] := List.length_eq_zero_iff.1 lP
      subst this
      rw [p2]
      have hc : (resGo Ste.none nP oP (M :: r)).2.2 = 0 := okQ
      rw [resGo_cons] at hc
      by_cases h0 : (stepM nP M).2.2 ≠ 0
      · rw [if_pos h0] at hc; exact absurd hc h0
      · generalize hq : stepM nP M = q at h0
        obtain ⟨S', ⟨y, i, L⟩, e⟩ := q
        have e0 : e = 0 := by simpa using h0
        subst e0
        have := chk_y (step_ok hq).ch
        show (0 : Int) ≠ M.y
        omega
    · rw [hM] at m2
      cases m2
      rw [p2]
      by_cases ha : a = 0
      · subst ha
        have : M1 = M := by
          have : (0 : Nat) - 1 = 0 := rfl
          rw [this, hM] at m1
          exact (Option.some.inj m1).symm
        exact absurd (by rw [this]) m3
      · have h5 := lastY_take l (a - 1) Ste.none.y M1 m1
        rw [show a - 1 + 1 = a by omega, hPP] at h5
        rw [h5]
        exact m3
  obtain ⟨M, r, rfl, hy2, ho2⟩ := hQn
  obtain ⟨s1, s2, s3⟩ := seg_go ho2 hy2 okQ
  have q3 := (resGo_ends Ste.none (M :: r) Ste.none [] hlQ rfl s1).2.2
  have k := resGo_shift Ste.none Ste.none R (resGo Ste.none nP oP (M :: r)).2.1 (resGo Ste.none nP oP (M :: r)).1 []
  rw [List.append_nil, ← eQ] at k
  have k2 := k.2 h
  refine ⟨s1, ?_, fun hbl => ?_⟩
  · rw [k2.1, s2, List.append_assoc]
    have ea : a = oP.length := by rw [p3, lP]; simp
    have eb : b - oP.length = (resGo Ste.none Ste.none [] (M :: r)).1.length := by rw [q3, lQ, ← ea]; simp
    rw [ea, List.drop_left, eb, List.take_left]
  · have : R = [] := by rw [← hRR, hbl, List.drop_length]
    subst this
    rw [← s3, eQ]
    rfl
end Go.Proofs.YtgepbkldgnjpfaaGreatDoor
