/- Merged from: Rr2 Rd2. -/
import Derived.Test.YtlgoaohklggcdaaGreatDoorRate
/- The reference's reading of a rate: plain laws. -/
namespace Go.Proofs.YtlgoaohklggcdaaGreatDoor
open Go.RowKit Go.Sort

theorem digC_46 : digC 46 = false := by decide
theorem digC_37 : digC 37 = false := by decide
theorem tw_stop {a r : List UInt8} {c : UInt8} (ha : a.all digC = true) (hc : digC c = false) : (a ++ c :: r).takeWhile digC = a := by
  induction a with
  | nil => simp [hc]
  | cons x a ih =>
    simp only [List.all_cons, Bool.and_eq_true] at ha
    simp [ha.1, ih ha.2]
theorem tw_all (l : List UInt8) : (l.takeWhile digC).all digC = true := by
  induction l with
  | nil => rfl
  | cons x l ih =>
    rw [List.takeWhile_cons]
    split
    · rename_i h; simp [h, ih]
    · rfl
theorem cut_parts {c : UInt8} {X a p : List UInt8} {pt : Bool} (h : cutB c X = (a, p, pt)) : X = a ++ (if pt = true then c :: p else []) := by
  cases pt with
  | true =>
    have := cutB_found (c := c) (l := X) (by rw [h])
    rw [h] at this
    simpa using this
  | false =>
    have := (cutB_miss (c := c) (l := X) (by rw [h])).1
    rw [h] at this
    simp [← this]
theorem cut_none {c : UInt8} {a : List UInt8} (h : c ∉ a) : cutB c a = (a, [], false) := by
  have hf : (cutB c a).2.2 = false := by
    cases hq : (cutB c a).2.2 with
    | false => rfl
    | true => exact absurd (by rw [cutB_found hq]; simp) h
  have := cutB_miss hf
  exact Prod.ext this.1 (Prod.ext this.2 hf)
theorem cut_at {c : UInt8} : ∀ {a : List UInt8} (p : List UInt8), c ∉ a → cutB c (a ++ c :: p) = (a, p, true)
  | [], p, _ => by unfold cutB; simp
  | x :: a, p, h => by
    have hx : x ≠ c := fun e => h (by simp [e])
    have ih := cut_at (a := a) p (fun hm => h (List.mem_cons_of_mem _ hm))
    show cutB c (x :: (a ++ c :: p)) = _
    unfold cutB
    rw [if_neg hx, ih]
theorem dig_46 {a : List UInt8} (h : a.all digC = true) : (46 : UInt8) ∉ a := fun hm => by
  have := List.all_eq_true.1 h _ hm
  revert this; decide
section
variable {l r a t : List UInt8} {neg : Bool}
/-- A rate's text: its sign, its digits, and the rest. -/
structure Tx (l r a t : List UInt8) (neg : Bool) : Prop where
  ne : l ≠ []
  hn : (l.head? == some 45) = neg
  hr : r = if neg = true then l.drop 1 else l
  ha : a = r.takeWhile digC
  ht : r = a ++ t
theorem Tx.core (h : Tx l r a t neg) : ∃ ok a' p' pt, RateAt l neg ok a' p' pt ∧ (ok = true → wholeB a' = true → a' = a ∧ t = if pt = true then 46 :: (p' ++ [37]) else [37]) := by
  obtain ⟨ok, hok⟩ : ∃ ok, ((if neg = true then l.drop 1 else l).getLast? == some 37) = ok := ⟨_, rfl⟩
  obtain ⟨⟨a', p', pt⟩, hc⟩ : ∃ x, cutB 46 (if ok = true then (if neg = true then l.drop 1 else l).dropLast else (if neg = true then l.drop 1 else l)) = x := ⟨_, rfl⟩
  refine ⟨ok, a', p', pt, ⟨h.ne, h.hn, hok, hc⟩, fun h1 hw => ?_⟩
  subst h1
  rw [← h.hr] at hok hc
  simp only [if_true] at hc
  have hX := cut_parts hc
  have hlast : r = r.dropLast ++ [37] := by
    have h2 : r.getLast? = some 37 := by simpa using hok
    have hne : r ≠ [] := fun h0 => by rw [h0] at h2; simp at h2
    have h3 := List.dropLast_concat_getLast hne
    rw [List.getLast?_eq_some_getLast hne] at h2
    injection h2 with h2
    rw [h2] at h3
    exact h3.symm
  have hd : a'.all digC = true := by unfold wholeB at hw; rw [Bool.and_eq_true] at hw; exact hw.1
  have hra : a' = a := by
    rw [h.ha, hlast, hX]
    cases pt with
    | true => simp only [if_true, List.append_assoc, List.cons_append]; exact (tw_stop hd digC_46).symm
    | false => simp only [Bool.false_eq_true, if_false, List.append_nil]; exact (tw_stop (r := []) hd digC_37).symm
  refine ⟨hra, ?_⟩
  have h4 := h.ht
  rw [hlast, hX, ← hra] at h4
  cases pt with
  | true =>
    simp only [if_true, List.append_assoc, List.cons_append, List.append_cancel_left_eq] at h4
    rw [← h4]; rfl
  | false =>
    simp only [Bool.false_eq_true, if_false, List.append_nil, List.append_cancel_left_eq] at h4
    rw [← h4]; rfl
theorem Tx.bad1 (h : Tx l r a t neg) (hb : wholeB a = false) : rateE l = (0, 3) := by
  obtain ⟨ok, a', p', pt, hR, hK⟩ := h.core
  rw [rateE_at hR]
  by_cases h1 : (ok && wholeB a') = false
  · rw [if_pos h1]
  · rw [Bool.not_eq_false, Bool.and_eq_true] at h1
    rw [(hK h1.1 h1.2).1] at h1
    rw [hb] at h1; exact absurd h1.2 (by simp)
theorem Tx.bad2 (h : Tx l r a t neg) {u : List UInt8} (ht : t = 46 :: u) (hb : partB (u.takeWhile digC) = false ∨ u ≠ u.takeWhile digC ++ [37]) : rateE l = (0, 3) := by
  obtain ⟨ok, a', p', pt, hR, hK⟩ := h.core
  rw [rateE_at hR]
  by_cases h1 : (ok && wholeB a') = false
  · rw [if_pos h1]
  · rw [if_neg h1]
    rw [Bool.not_eq_false, Bool.and_eq_true] at h1
    have h2 := (hK h1.1 h1.2).2
    rw [ht] at h2
    cases pt with
    | false => simp at h2
    | true =>
      simp only [if_true, List.cons.injEq, true_and] at h2
      rw [if_pos]
      rw [Bool.true_and, Bool.not_eq_true']
      cases hp : partB p' with
      | false => rfl
      | true =>
        exfalso
        have hd : p'.all digC = true := by
          unfold partB digsB at hp
          simp only [Bool.and_eq_true] at hp
          exact hp.1.1.1
        have h3 : u.takeWhile digC = p' := by rw [h2]; exact tw_stop (r := []) hd digC_37
        rcases hb with hb | hb
        · rw [h3, hp] at hb; cases hb
        · rw [h3] at hb; exact hb h2
theorem Tx.bad3 (h : Tx l r a t neg) (h46 : ∀ u, t ≠ 46 :: u) (h37 : t ≠ [37]) : rateE l = (0, 3) := by
  obtain ⟨ok, a', p', pt, hR, hK⟩ := h.core
  rw [rateE_at hR]
  by_cases h1 : (ok && wholeB a') = false
  · rw [if_pos h1]
  · rw [Bool.not_eq_false, Bool.and_eq_true] at h1
    have h2 := (hK h1.1 h1.2).2
    cases pt with
    | false => exact absurd h2 (by simpa using h37)
    | true => exact absurd h2 (by simpa using h46 _)
theorem Tx.digs (h : Tx l r a t neg) : a.all digC = true := by rw [h.ha]; exact tw_all _
theorem Tx.good1 (h : Tx l r a t neg) (hw : wholeB a = true) {f : List UInt8} (ht : t = 46 :: (f ++ [37])) (hp : partB f = true) : rateE l = if 1000000000 < rateN a f then (0, 2) else (signed neg (rateN a f), 0) := by
  have hr : r = (a ++ 46 :: f) ++ [37] := by rw [h.ht, ht]; simp
  have hR : RateAt l neg true a f true := ⟨h.ne, h.hn, by rw [← h.hr, hr, List.getLast?_concat]; rfl, by
    rw [← h.hr, if_pos rfl, hr, List.dropLast_concat]
    exact cut_at f (dig_46 h.digs)⟩
  rw [rateE_at hR, hw, hp]
  simp
theorem Tx.good2 (h : Tx l r a t neg) (hw : wholeB a = true) (ht : t = [37]) : rateE l = if (neg && a == [48]) = true then (0, 3) else if 1000000000 < rateN a [] then (0, 2) else (signed neg (rateN a []), 0) := by
  have hr : r = a ++ [37] := by rw [h.ht, ht]
  have hR : RateAt l neg true a [] false := ⟨h.ne, h.hn, by rw [← h.hr, hr, List.getLast?_concat]; rfl, by
    rw [← h.hr, if_pos rfl, hr, List.dropLast_concat]
    exact cut_none (dig_46 h.digs)⟩
  rw [rateE_at hR, hw]
  simp
end
end Go.Proofs.YtlgoaohklggcdaaGreatDoor

/- The reference's reading of a rate: its numbers, and its count of digits. -/
namespace Go.Proofs.YtlgoaohklggcdaaGreatDoor
open Go.RowKit Go.Sort

theorem numL_nil' (n : Nat) : numL n [] = n := rfl
theorem numL_cons' (n : Nat) (b : UInt8) (l : List UInt8) : numL n (b :: l) = numL (10 * n + (b.toNat - 48)) l := numL_append n [b] l
/-- The number of digits read, or one that is too great just as it is. -/
def SatV (a : List UInt8) (n : Nat) : Prop := (n = numL 0 a ∧ n < 1000000) ∨ (1000000 ≤ n ∧ n < 10000000 ∧ 1000000 ≤ numL 0 a)
theorem satV_nil : SatV [] 0 := .inl ⟨rfl, by omega⟩
theorem satV_low {a : List UInt8} {k n : Nat} {b : UInt8} (hb : a[k]? = some b) (hd : digC b = true) (h : SatV (a.take k) n) (hn : n < 1000000) : SatV (a.take (k + 1)) (10 * n + (b.toNat - 48)) ∧ 48 ≤ b.toNat ∧ b.toNat ≤ 57 := by
  have hd2 : 48 ≤ b.toNat ∧ b.toNat ≤ 57 := by unfold digC at hd; simpa using hd
  refine ⟨?_, hd2⟩
  rcases h with ⟨h1, h2⟩ | ⟨h1, _⟩
  · unfold SatV
    rw [numL_more hb, ← h1]
    omega
  · omega
theorem satV_high {a : List UInt8} {k n : Nat} {b : UInt8} (hb : a[k]? = some b) (h : SatV (a.take k) n) (hn : ¬ n < 1000000) : SatV (a.take (k + 1)) n := by
  rcases h with ⟨h1, h2⟩ | ⟨h1, h2, h3⟩
  · omega
  · exact .inr ⟨h1, h2, by rw [numL_more hb]; omega⟩
theorem satV_lt {a : List UInt8} {n : Nat} (h : SatV a n) : n < 10000000 := by
  rcases h with ⟨_, h⟩ | ⟨_, h, _⟩ <;> omega
/-- The tens of the places behind the point. -/
def p10 (j : Nat) : Nat := if j = 0 then 10000 else if j = 1 then 1000 else if j = 2 then 100 else if j = 3 then 10 else if j = 4 then 1 else 0
theorem p10_step {j : Nat} (h : j < 4) : p10 j = 10 * p10 (j + 1) := by
  have : j = 0 ∨ j = 1 ∨ j = 2 ∨ j = 3 := by omega
  rcases this with rfl | rfl | rfl | rfl <;> simp [p10]
theorem p10_div {j : Nat} (h : j < 4) : p10 (j + 1) / 10 = p10 (j + 2) := by
  have : j = 0 ∨ j = 1 ∨ j = 2 ∨ j = 3 := by omega
  rcases this with rfl | rfl | rfl | rfl <;> simp [p10]
theorem p10_le (j : Nat) : p10 j ≤ 10000 := by
  unfold p10
  split
  · omega
  split
  · omega
  split
  · omega
  split
  · omega
  split <;> omega
/-- What lies behind the point, at j places. -/
def fracV (f : List UInt8) (j : Nat) : Nat := numL 0 (f.take j) * p10 j
theorem fracV_zero (f : List UInt8) : fracV f 0 = 0 := by unfold fracV; rw [List.take_zero, numL_nil', Nat.zero_mul]
theorem fracV_step {f : List UInt8} {j : Nat} {b : UInt8} (hb : f[j]? = some b) (hj : j < 4) : fracV f (j + 1) = fracV f j + p10 (j + 1) * (b.toNat - 48) := by
  unfold fracV
  rw [numL_more hb, p10_step hj, Nat.add_mul, Nat.mul_comm 10 (numL 0 (f.take j)), Nat.mul_assoc]
  congr 1
  exact Nat.mul_comm _ _
theorem fracV_lt {f : List UInt8} {j : Nat} (hd : f.all digC = true) (hj : j ≤ 4) : fracV f j < 10000 := by
  unfold fracV
  have h1 := numL_lt (f.take j) 0 (by
    rw [List.all_eq_true] at hd ⊢
    exact fun x hx => hd x (List.mem_of_mem_take hx))
  rw [Nat.zero_add, Nat.one_mul] at h1
  have h2 : (f.take j).length ≤ j := List.length_take_le _ _
  have h3 : numL 0 (f.take j) < 10 ^ j := Nat.lt_of_lt_of_le h1 (Nat.pow_le_pow_right (by omega) h2)
  have : j = 0 ∨ j = 1 ∨ j = 2 ∨ j = 3 ∨ j = 4 := by omega
  rcases this with rfl | rfl | rfl | rfl | rfl <;> simp [p10] at h3 ⊢ <;> omega
theorem fracV_all {f : List UInt8} (h : f.length ≤ 4) : fracV f f.length = numL 0 ((f ++ [48, 48, 48, 48]).take 4) := by
  have h48 : (48 : UInt8).toNat - 48 = 0 := rfl
  have q1 : p10 1 = 1000 := by simp [p10]
  have q2 : p10 2 = 100 := by simp [p10]
  have q3 : p10 3 = 10 := by simp [p10]
  have q4 : p10 4 = 1 := by simp [p10]
  unfold fracV
  rw [List.take_length]
  match f, h with
  | [], _ =>
    show numL 0 [] * p10 0 = numL 0 [48, 48, 48, 48]
    rw [numL_nil', numL_cons', numL_cons', numL_cons', numL_cons', numL_nil', h48]; omega
  | [a], _ =>
    show numL 0 [a] * p10 1 = numL 0 [a, 48, 48, 48]
    rw [q1, numL_cons', numL_nil', numL_cons', numL_cons', numL_cons', numL_cons', numL_nil', h48]; omega
  | [a, b], _ =>
    show numL 0 [a, b] * p10 2 = numL 0 [a, b, 48, 48]
    rw [q2, numL_cons', numL_cons', numL_nil', numL_cons', numL_cons', numL_cons', numL_cons', numL_nil', h48]; omega
  | [a, b, c], _ =>
    show numL 0 [a, b, c] * p10 3 = numL 0 [a, b, c, 48]
    rw [q3, numL_cons', numL_cons', numL_cons', numL_nil', numL_cons', numL_cons', numL_cons', numL_cons', numL_nil', h48]; omega
  | [a, b, c, d], _ =>
    show numL 0 [a, b, c, d] * p10 4 = numL 0 [a, b, c, d]
    rw [q4, Nat.mul_one]
/-- The rate's number against the document's limit. -/
theorem sat_rate {a f : List UInt8} {n F : Nat} (h : SatV a n) (hF : F < 10000) (hf : F = numL 0 ((f ++ [48, 48, 48, 48]).take 4)) : (1000000000 < n * 10000 + F ↔ 1000000000 < rateN a f) ∧ (¬ 1000000000 < rateN a f → n * 10000 + F = rateN a f) := by
  unfold rateN
  rw [← hf]
  rcases h with ⟨h1, h2⟩ | ⟨h1, h2, h3⟩
  · rw [h1]; omega
  · omega
theorem part_pos {f : List UInt8} (h : partB f = true) : 0 < numL 0 ((f ++ [48, 48, 48, 48]).take 4) := by
  unfold partB digsB at h
  simp only [Bool.and_eq_true, Bool.not_eq_true', decide_eq_true_eq] at h
  obtain ⟨⟨⟨hd, hne⟩, hl⟩, h0⟩ := h
  rw [← fracV_all hl]
  unfold fracV
  rw [List.take_length]
  obtain ⟨I, z, rfl⟩ : ∃ I z, f = I ++ [z] := by
    rcases List.eq_nil_or_concat f with h | ⟨I, z, h⟩
    · rw [h] at hne; simp at hne
    · exact ⟨I, z, by rw [h, List.concat_eq_append]⟩
  have hz : digC z = true := List.all_eq_true.1 hd z (by simp)
  have hz2 : 48 ≤ z.toNat ∧ z.toNat ≤ 57 := by unfold digC at hz; simpa using hz
  have hz3 : z.toNat ≠ 48 := fun h => by
    have : z = 48 := UInt8.toNat_inj.1 h
    rw [this] at h0; simp at h0
  have h1 : 0 < numL 0 (I ++ [z]) := by
    rw [numL_append]
    have h5 : numL (numL 0 I) [z] = 10 * numL 0 I + (z.toNat - 48) := rfl
    rw [h5]; omega
  have h2 : 0 < p10 (I ++ [z]).length := by
    have h3 : (I ++ [z]).length = 1 ∨ (I ++ [z]).length = 2 ∨ (I ++ [z]).length = 3 ∨ (I ++ [z]).length = 4 := by
      rw [List.length_append, List.length_singleton] at hl ⊢
      omega
    rcases h3 with h | h | h | h <;> rw [h] <;> simp [p10]
  exact Nat.mul_pos h1 h2
theorem zero_whole {a : List UInt8} (hw : wholeB a = true) : numL 0 a = 0 ↔ a = [48] := by
  unfold wholeB neat at hw
  simp only [Bool.and_eq_true, Bool.not_eq_true', Bool.or_eq_true, decide_eq_true_eq] at hw
  obtain ⟨hd, hne, hl⟩ := hw
  match a with
  | [] => simp at hne
  | [x] =>
    have hx : digC x = true := List.all_eq_true.1 hd x (by simp)
    have hx2 : 48 ≤ x.toNat ∧ x.toNat ≤ 57 := by unfold digC at hx; simpa using hx
    rw [numL_cons', numL_nil']
    refine ⟨fun h => ?_, fun h => ?_⟩
    · have : x = 48 := UInt8.toNat_inj.1 (by show x.toNat = 48; omega)
      rw [this]
    · injection h with h _; subst h; rfl
  | x :: y :: z =>
    have hx : digC x = true := List.all_eq_true.1 hd x (by simp)
    have hx2 : 48 ≤ x.toNat ∧ x.toNat ≤ 57 := by unfold digC at hx; simpa using hx
    have hx3 : x.toNat ≠ 48 := fun h => by
      have : x = 48 := UInt8.toNat_inj.1 h
      rcases hl with hl | hl
      · simp at hl
      · rw [this] at hl; simp at hl
    refine ⟨fun h => ?_, fun h => by simp at h⟩
    exfalso
    have h1 : numL 0 (x :: y :: z) = numL (10 * 0 + (x.toNat - 48)) (y :: z) := rfl
    have h2 := numL_ge (y :: z) (10 * 0 + (x.toNat - 48))
    omega
/-- How many digits a text has from some place on. -/
theorem tw_take {l : List UInt8} {n : Nat} (h : (l.take n).all digC = true) (hn : n ≤ l.length) (he : ∀ b, l[n]? = some b → digC b = false) : (l.takeWhile digC).length = n := by
  cases hd : l.drop n with
  | nil =>
    have hl : l.length ≤ n := by
      have := congrArg List.length hd
      simp at this; omega
    rw [List.take_of_length_le hl] at h
    have : l.takeWhile digC = l := by
      have h2 := List.all_eq_true.1 h
      clear h hd hl he hn
      induction l with
      | nil => rfl
      | cons x l ih => rw [List.takeWhile_cons, if_pos (h2 x (by simp)), ih (fun y hy => h2 y (List.mem_cons_of_mem _ hy))]
    rw [this]; omega
  | cons b r =>
    have hb : l[n]? = some b := by
      have := congrArg List.head? hd
      rw [List.head?_drop] at this
      simpa using this
    have e : l = l.take n ++ b :: r := by rw [← hd, List.take_append_drop]
    rw [e, tw_stop h (he b hb), List.length_take]; omega
end Go.Proofs.YtlgoaohklggcdaaGreatDoor
