/- The reference's reading of a rate: plain laws. -/
import Derived.Test.YtdpejolpjhlibaaGreatDoorRate
namespace Go.Proofs.YtdpejolpjhlibaaGreatDoor
open Go.RowKit Go.Sort

theorem digC_46 : digC 46 = false := by decide
theorem digC_37 : digC 37 = false := by decide
theorem tw_stop {a r : List UInt8} {c : UInt8} (ha : a.all digC = true) (hc : digC c = false) : (a ++ c :: r).takeWhile digC = a := by
  induction a with
  | nil => simp [hc]
  | cons x a ih =>
    simp only [List.all_cons, Bool.and_eq_true] at ha
    simp [ha.1, ih ha.2]
theorem tw_all (l : List UInt8) : (l.takeWhile digC).all digC = true := by
  induction l with
  | nil => rfl
  | cons x l ih =>
    rw [List.takeWhile_cons]
    split
    · rename_i h; simp [h, ih]
    · rfl
theorem cut_parts {c : UInt8} {X a p : List UInt8} {pt : Bool} (h : cutB c X = (a, p, pt)) : X = a ++ (if pt = true then c :: p else []) := by
  cases pt with
  | true =>
    have := cutB_found (c := c) (l := X) (by rw [h])
    rw [h] at this
    simpa using this
  | false =>
    have := (cutB_miss (c := c) (l := X) (by rw [h])).1
    rw [h] at this
    simp [← this]
theorem cut_none {c : UInt8} {a : List UInt8} (h : c ∉ a) : cutB c a = (a, [], false) := by
  have hf : (cutB c a).2.2 = false := by
    cases hq : (cutB c a).2.2 with
    | false => rfl
    | true => exact absurd (by rw [cutB_found hq]; simp) h
  have := cutB_miss hf
  exact Prod.ext this.1 (Prod.ext this.2 hf)
theorem cut_at {c : UInt8} : ∀ {a : List UInt8} (p : List UInt8), c ∉ a → cutB c (a ++ c :: p) = (a, p, true)
  | [], p, _ => by unfold cutB; simp
  | x :: a, p, h => by
    have hx : x ≠ c := fun e => h (by simp [e])
    have ih := cut_at (a := a) p (fun hm => h (List.mem_cons_of_mem _ hm))
    show cutB c (x :: (a ++ c :: p)) = _
    unfold cutB
    rw [if_neg hx, ih]
theorem dig_46 {a : List UInt8} (h : a.all digC = true) : (46 : UInt8) ∉ a := fun hm => by
  have := List.all_eq_true.1 h _ hm
  revert this; decide
section
variable {l r a t : List UInt8} {neg : Bool}
/-- A rate's text: its sign, its digits, and the rest. -/
structure Tx (l r a t : List UInt8) (neg : Bool) : Prop where
  ne : l ≠ []
  hn : (l.head? == some 45) = neg
  hr : r = if neg = true then l.drop 1 else l
  ha : a = r.takeWhile digC
  ht : r = a ++ t
theorem Tx.core (h : Tx l r a t neg) : ∃ ok a' p' pt, RateAt l neg ok a' p' pt ∧ (ok = true → wholeB a' = true → a' = a ∧ t = if pt = true then 46 :: (p' ++ [37]) else [37]) := by
  obtain ⟨ok, hok⟩ : ∃ ok, ((if neg = true then l.drop 1 else l).getLast? == some 37) = ok := ⟨_, rfl⟩
  obtain ⟨⟨a', p', pt⟩, hc⟩ : ∃ x, cutB 46 (if ok = true then (if neg = true then l.drop 1 else l).dropLast else (if neg = true then l.drop 1 else l)) = x := ⟨_, rfl⟩
  refine ⟨ok, a', p', pt, ⟨h.ne, h.hn, hok, hc⟩, fun h1 hw => ?_⟩
  subst h1
  rw [← h.hr] at hok hc
  simp only [if_true] at hc
  have hX := cut_parts hc
  have hlast : r = r.dropLast ++ [37] := by
    have h2 : r.getLast? = some 37 := by simpa using hok
    have hne : r ≠ [] := fun h0 => by rw [h0] at h2; simp at h2
    have h3 := List.dropLast_concat_getLast hne
    rw [List.getLast?_eq_some_getLast hne] at h2
    injection h2 with h2
    rw [h2] at h3
    exact h3.symm
  have hd : a'.all digC = true := by unfold wholeB at hw; rw [Bool.and_eq_true] at hw; exact hw.1
  have hra : a' = a := by
    rw [h.ha, hlast, hX]
    cases pt with
    | true => simp only [if_true, List.append_assoc, List.cons_append]; exact (tw_stop hd digC_46).symm
    | false => simp only [Bool.false_eq_true, if_false, List.append_nil]; exact (tw_stop (r := []) hd digC_37).symm
  refine ⟨hra, ?_⟩
  have h4 := h.ht
  rw [hlast, hX, ← hra] at h4
  cases pt with
  | true =>
    simp only [if_true, List.append_assoc, List.cons_append, List.append_cancel_left_eq] at h4
    rw [← h4]; rfl
  | false =>
    simp only [Bool.false_eq_true, if_false, List.append_nil, List.append_cancel_left_eq] at h4
    rw [← h4]; rfl
theorem Tx.bad1 (h : Tx l r a t neg) (hb : wholeB a = false) : rateE l = (0, 3) := by
  obtain ⟨ok, a', p', pt, hR, hK⟩ := h.core
  rw [rateE_at hR]
  by_cases h1 : (ok && wholeB a') = false
  · rw [if_pos h1]
  · rw [Bool.not_eq_false, Bool.and_eq_true] at h1
    rw [(hK h1.1 h1.2).1] at h1
    rw [hb] at h1; exact absurd h1.2 (by simp)
theorem Tx.bad2 (h : Tx l r a t neg) {u : List UInt8} (ht : t = 46 :: u) (hb : partB (u.takeWhile digC) = false ∨ u ≠ u.takeWhile digC ++ [37]) : rateE l = (0, 3) := by
  obtain ⟨ok, a', p', pt, hR, hK⟩ := h.core
  rw [rateE_at hR]
  by_cases h1 : (ok && wholeB a') = false
  · rw [if_pos h1]
  · rw [if_neg h1]
    rw [Bool.not_eq_false, Bool.and_eq_true] at h1
    have h2 := (hK h1.1 h1.2).2
    rw [ht] at h2
    cases pt with
    | false => simp at h2
    | true =>
      simp only [if_true, List.cons.injEq, true_and] at h2
      rw [if_pos]
      rw [Bool.true_and, Bool.not_eq_true']
      cases hp : partB p' with
      | false => rfl
      | true =>
        exfalso
        have hd : p'.all digC = true := by
          unfold partB digsB at hp
          simp only [Bool.and_eq_true] at hp
          exact hp.1.1.1
        have h3 : u.takeWhile digC = p' := by rw [h2]; exact tw_stop (r := []) hd digC_37
        rcases hb with hb | hb
        · rw [h3, hp] at hb; cases hb
        · rw [h3] at hb; exact hb h2
theorem Tx.bad3 (h : Tx l r a t neg) (h46 : ∀ u, t ≠ 46 :: u) (h37 : t ≠ [37]) : rateE l = (0, 3) := by
  obtain ⟨ok, a', p', pt, hR, hK⟩ := h.core
  rw [rateE_at hR]
  by_cases h1 : (ok && wholeB a') = false
  · rw [if_pos h1]
  · rw [Bool.not_eq_false, Bool.and_eq_true] at h1
    have h2 := (hK h1.1 h1.2).2
    cases pt with
    | false => exact absurd h2 (by simpa using h37)
    | true => exact absurd h2 (by simpa using h46 _)
theorem Tx.digs (h : Tx l r a t neg) : a.all digC = true := by rw [h.ha]; exact tw_all _
theorem Tx.good1 (h : Tx l r a t neg) (hw : wholeB a = true) {f : List UInt8} (ht : t = 46 :: (f ++ [37])) (hp : partB f = true) : rateE l = if 1000000000 < rateN a f then (0, 2) else (signed neg (rateN a f), 0) := by
  have hr : r = (a ++ 46 :: f) ++ [37] := by rw [h.ht, ht]; simp
  have hR : RateAt l neg true a f true := ⟨h.ne, h.hn, by rw [← h.hr, hr, List.getLast?_concat]; rfl, by
    rw [← h.hr, if_pos rfl, hr, List.dropLast_concat]
    exact cut_at f (dig_46 h.digs)⟩
  rw [rateE_at hR, hw, hp]
  simp
theorem Tx.good2 (h : Tx l r a t neg) (hw : wholeB a = true) (ht : t = [37]) : rateE l = if (neg && a == [48]) = true then (0, 3) else if 1000000000 < rateN a [] then (0, 2) else (signed neg (rateN a []), 0) := by
  have hr : r = a ++ [37] := by rw [h.ht, ht]
  have hR : RateAt l neg true a [] false := ⟨h.ne, h.hn, by rw [← h.hr, hr, List.getLast?_concat]; rfl, by
    rw [← h.hr, if_pos rfl, hr, List.dropLast_concat]
    exact cut_none (dig_46 h.digs)⟩
  rw [rateE_at hR, hw]
  simp
end
end Go.Proofs.YtdpejolpjhlibaaGreatDoor
