/- Plain laws of a year's tax: no program in sight but the tables' names. -/
import Derived.Test.YtkpfjabeppdjlaaTax9
namespace Go.Proofs.Ytkpfjabeppdjlaa
open Go.RowKit

theorem tot_lin {x d : Int} {t : List (Int × Int)} (ht : Right t) (hd : 1 ≤ d) (k : Nat) (hk : k < t.length) :
    tot x d t (k + 1) = tot x d t k + bR t k * (limK x d t (k + 1) - limK x d t k) := by
  rw [tot_succ]
  have hb : bTo x d t k = limK x d t (k + 1) := rfl
  have hf := Int.mul_nonneg (ht.from0 k hk) (show 0 ≤ d by omega)
  have hl : limK x d t k = min x (bF t k * d) := by unfold limK; rw [if_pos hk]
  have hl1 : limK x d t (k + 1) ≤ x ∧ (x ≤ bF t k * d → limK x d t (k + 1) = x) := by
    unfold limK
    by_cases h1 : k + 1 < t.length
    · have hup := mul_up (ht.rise k h1) hd
      rw [if_pos h1]; omega
    · rw [if_neg h1]; omega
  rw [hb, hl]
  by_cases hc : bF t k * d < limK x d t (k + 1)
  · rw [if_pos hc, show min x (bF t k * d) = bF t k * d by omega]
  · rw [if_neg hc]
    have h2 : limK x d t (k + 1) = min x (bF t k * d) := by
      by_cases h3 : x ≤ bF t k * d
      · rw [hl1.2 h3]; omega
      · have h4 : limK x d t (k + 1) = bF t k * d ∨ bF t k * d < limK x d t (k + 1) := by
          unfold limK
          by_cases h1 : k + 1 < t.length
          · have hup := mul_up (ht.rise k h1) hd
            rw [if_pos h1]; omega
          · rw [if_neg h1]; omega
        omega
    rw [h2, Int.sub_self, Int.mul_zero, Int.add_zero]

theorem tot_diff {x y d : Int} {t : List (Int × Int)} (ht : Right t) (hxy : x ≤ y) (hd : 1 ≤ d) : ∀ k, k ≤ t.length →
    tot x d t k ≤ tot y d t k ∧ tot y d t k ≤ tot x d t k + 1000000 * (limK y d t k - limK x d t k) := by
  intro k
  induction k with
  | zero =>
    intro _
    have h0 : ∀ z : Int, tot z d t 0 = 0 := fun _ => rfl
    rw [h0, h0]
    have : limK x d t 0 ≤ limK y d t 0 := by unfold limK; split <;> omega
    omega
  | succ k ih =>
    intro hk
    obtain ⟨h1, h2⟩ := ih (by omega)
    rw [tot_lin ht hd k (by omega), tot_lin ht hd k (by omega)]
    have hr0 := ht.low k (by omega)
    have hr1 := ht.high k (by omega)
    have hD : 0 ≤ (limK y d t (k + 1) - limK y d t k) - (limK x d t (k + 1) - limK x d t k) := by
      unfold limK
      rw [if_pos (show k < t.length by omega), if_pos (show k < t.length by omega)]
      by_cases h1 : k + 1 < t.length
      · have hup := mul_up (ht.rise k h1) hd
        rw [if_pos h1, if_pos h1]; omega
      · rw [if_neg h1, if_neg h1]; omega
    generalize hY : (limK y d t (k + 1) - limK y d t k) = Y at *
    generalize hX : (limK x d t (k + 1) - limK x d t k) = X at *
    have e1 : bR t k * Y = bR t k * X + bR t k * (Y - X) := by rw [← Int.mul_add]; congr 1; omega
    have e2 := Int.mul_nonneg hr0 hD
    have e3 := Int.mul_le_mul_of_nonneg_right hr1 hD
    have e4 : limK y d t (k + 1) - limK x d t (k + 1) = (limK y d t k - limK x d t k) + (Y - X) := by omega
    omega

theorem half_eq (T den : Int) (hd : 0 < den) : half T den = (2 * T + den) / (2 * den) := by
  have e1 := Int.mul_ediv_add_emod T den
  have b1 := Int.emod_nonneg T (show den ≠ 0 by omega)
  have b2 := Int.emod_lt_of_pos T hd
  unfold half
  split
  · have := (Int.ediv_emod_unique (a := 2 * T + den) (b := 2 * den) (r := 2 * (T % den) - den) (q := T / den + 1) (by omega)).2 ⟨by rw [Int.mul_add, Int.mul_assoc]; omega, by omega, by omega⟩
    rw [this.1]
  · have := (Int.ediv_emod_unique (a := 2 * T + den) (b := 2 * den) (r := 2 * (T % den) + den) (q := T / den) (by omega)).2 ⟨by rw [Int.mul_assoc]; omega, by omega, by omega⟩
    rw [this.1, Int.add_zero]
theorem half_mono {T U den : Int} (hd : 0 < den) (h : T ≤ U) : half T den ≤ half U den := by
  rw [half_eq T den hd, half_eq U den hd]
  exact Int.ediv_le_ediv (by omega) (by omega)
theorem half_add (T k den : Int) (hd : 0 < den) : half (T + k * den) den = half T den + k := by
  rw [half_eq _ _ hd, half_eq _ _ hd, show 2 * (T + k * den) + den = 2 * T + den + 2 * den * k by rw [Int.mul_assoc, Int.mul_comm den k, Int.mul_add]; omega, Int.add_mul_ediv_left _ _ (by omega)]
theorem half_zero {den : Int} (hd : 0 < den) : half 0 den = 0 := by
  rw [half_eq _ _ hd]; exact Int.ediv_eq_zero_of_lt (by omega) (by omega)
theorem half_of_mul {k den : Int} (hd : 0 < den) : half (k * den) den = k := by
  have := half_add 0 k den hd
  rw [half_zero hd] at this
  simpa using this

/-- What 'right' asks of a card. -/
def GoodB (t : List (Int × Int)) (i : Nat) : Prop := (if i = 0 then (-1 : Int) else bF t (i - 1)) < bF t i ∧ bF t i ≤ 1099511627776 ∧ 0 ≤ bR t i ∧ bR t i ≤ 1000000
structure RightP (t : List (Int × Int)) (al ex : Int) : Prop where
  good : ∀ i, i < t.length → GoodB t i
  first : t.length = 0 ∨ bF t 0 = 0
  len : t.length ≤ 64
  al0 : 0 ≤ al
  al1 : al ≤ 1099511627776
  ex0 : 0 ≤ ex
  ex1 : ex ≤ 1099511627776
theorem RightP.right {t : List (Int × Int)} {al ex : Int} (h : RightP t al ex) : Right t := by
  refine ⟨h.len, fun h0 => ?_, fun i hi => ?_, fun i hi => ?_, fun i hi => ?_, fun i hi => ?_⟩
  · rcases h.first with h1 | h1 <;> omega
  · have := (h.good (i + 1) hi).1
    rw [if_neg (by omega)] at this
    simpa using this
  · have := h.good i hi; unfold GoodB at this; omega
  · have := h.good i hi; unfold GoodB at this; omega
  · have := h.good i hi; unfold GoodB at this; omega
theorem Right.chk {t : List (Int × Int)} (h : Right t) : chkE t = 0 := by
  refine (chk_ok (k := t.length) (by have := h.len; omega) (fun j hj => ?_) rfl).symm
  unfold badAt
  have hF : ∀ i, (t.getD i (0, 0)).1 = bF t i := fun _ => rfl
  have hR : ∀ i, (t.getD i (0, 0)).2 = bR t i := fun _ => rfl
  simp only [hF, hR]
  have h1 := h.most j hj
  have h2 := h.low j hj
  have h3 := h.high j hj
  rw [if_neg, if_neg (by omega)]
  rintro (⟨rfl, h4⟩ | ⟨h4, h5⟩)
  · exact h4 (h.first hj)
  · have := h.rise (j - 1) (by omega)
    rw [show j - 1 + 1 = j by omega] at this
    omega

/-- What is left of the base. -/
def restV (base index of al : Int) : Int := max 0 (base * of - al * index)
/-- The tax to date of a right card: nothing is wrong but the period's number. -/
theorem toDate_right {base index of al ex : Int} {t : List (Int × Int)} (h : RightP t al ex) (hb0 : -1099511627776 * 1024 ≤ base) (hb1 : base ≤ 1099511627776 * 1024) (hi : ¬ (index < 1 ∨ of < index ∨ 400 < of)) :
    toDateV base index of al ex t = scaledV (tot (restV base index of al) index t t.length) of := by
  have hf : fitsB base = true := by unfold fitsB; simp; omega
  have ha : amountB al = true := by have := h.al0; have := h.al1; unfold amountB; simp; omega
  have he : amountB ex = true := by have := h.ex0; have := h.ex1; unfold amountB; simp; omega
  unfold toDateV
  rw [if_neg hi, if_neg (by simp [hf]), if_neg (by simp [ha]), if_neg (by simp [he])]
  unfold scaledE
  rw [if_neg (by simp [h.right.chk])]
  rfl
theorem tot_le_base {base index of al ex : Int} {t : List (Int × Int)} (h : RightP t al ex) (h1 : 1 ≤ index) (h2 : index ≤ of) :
    0 ≤ tot (restV base index of al) index t t.length ∧ tot (restV base index of al) index t t.length ≤ max base 0 * (of * 1000000) := by
  have hx : 0 ≤ restV base index of al := by unfold restV; omega
  have h3 := tot_le h.right hx h1 t.length (Nat.le_refl _)
  have h4 : restV base index of al ≤ max base 0 * of := by
    have e1 := Int.mul_nonneg h.al0 (show 0 ≤ index by omega)
    have e2 := Int.mul_le_mul_of_nonneg_right (show base ≤ max base 0 by omega) (show 0 ≤ of by omega)
    have e3 := Int.mul_nonneg (show 0 ≤ max base 0 by omega) (show 0 ≤ of by omega)
    unfold restV
    omega
  refine ⟨tot_nonneg h.right _ (Nat.le_refl _), ?_⟩
  rw [← Int.mul_assoc]
  omega
theorem half_le_base {base index of al ex : Int} {t : List (Int × Int)} (h : RightP t al ex) (h1 : 1 ≤ index) (h2 : index ≤ of) :
    0 ≤ half (tot (restV base index of al) index t t.length) (of * 1000000) ∧ half (tot (restV base index of al) index t t.length) (of * 1000000) ≤ max base 0 := by
  obtain ⟨h3, h4⟩ := tot_le_base (base := base) h h1 h2
  have hd : 0 < of * 1000000 := by omega
  have e1 := half_mono hd h3
  have e2 := half_mono hd h4
  rw [half_zero hd] at e1
  rw [half_of_mul hd] at e2
  exact ⟨e1, e2⟩
/-- So the value is the rounded one. -/
theorem toDate_val {base index of al ex : Int} {t : List (Int × Int)} (h : RightP t al ex) (hb0 : -1099511627776 * 1024 ≤ base) (hb1 : base ≤ 1099511627776 * 1024) (hi : ¬ (index < 1 ∨ of < index ∨ 400 < of)) :
    toDateV base index of al ex t = (half (tot (restV base index of al) index t t.length) (of * 1000000), 0) := by
  rw [toDate_right h hb0 hb1 hi]
  unfold scaledV
  rw [if_neg]
  have := (half_le_base (base := base) h (show 1 ≤ index by omega) (show index ≤ of by omega)).2
  omega
theorem toDate_range {base index of al ex : Int} {t : List (Int × Int)} (hi : index < 1 ∨ of < index ∨ 400 < of) : toDateV base index of al ex t = (0, 2) := by
  unfold toDateV; rw [if_pos hi]

/-- TaxRises. -/
theorem rises {base more index of al ex : Int} {t : List (Int × Int)} (h : RightP t al ex) (hb0 : -1099511627776 ≤ base) (hb1 : base ≤ 1099511627776) (hm0 : 0 ≤ more) (hm1 : more ≤ 1099511627776) (hi : ¬ (index < 1 ∨ of < index ∨ 400 < of)) :
    ∃ a b, toDateV base index of al ex t = (a, 0) ∧ toDateV (base + more) index of al ex t = (b, 0) ∧ 0 ≤ a ∧ a ≤ max base 0 ∧ a ≤ b ∧ b - a ≤ more + 1 := by
  refine ⟨_, _, toDate_val h (by omega) (by omega) hi, toDate_val h (by omega) (by omega) hi, ?_⟩
  have hd : 0 < of * 1000000 := by omega
  obtain ⟨h1, h2⟩ := half_le_base (base := base) (al := al) (ex := ex) h (show 1 ≤ index by omega) (show index ≤ of by omega)
  have e0 := Int.mul_nonneg hm0 (show 0 ≤ of by omega)
  have e1 : restV base index of al ≤ restV (base + more) index of al := by unfold restV; rw [Int.add_mul]; omega
  have e2 : restV (base + more) index of al ≤ restV base index of al + more * of := by unfold restV; rw [Int.add_mul]; omega
  obtain ⟨d1, d2⟩ := tot_diff h.right e1 (show 1 ≤ index by omega) t.length (Nat.le_refl _)
  have hl : ∀ z, limK z index t t.length = z := fun z => by unfold limK; rw [if_neg (by omega)]
  rw [hl, hl] at d2
  have e3 := half_mono hd d1
  have e4 : tot (restV (base + more) index of al) index t t.length ≤ tot (restV base index of al) index t t.length + more * (of * 1000000) := by
    rw [← Int.mul_assoc]; omega
  have e5 := half_mono hd e4
  rw [half_add _ _ _ hd] at e5
  exact ⟨h1, h2, e3, by omega⟩

theorem tot_nil (x d : Int) : tot x d [] 0 = 0 := rfl
/-- TaxCards. -/
theorem cards {base index of al ex more : Int} {t : List (Int × Int)} (h : RightP t al ex) (hb0 : -1099511627776 ≤ base) (hb1 : base ≤ 1099511627776) (hm0 : 0 ≤ more) (hm1 : more ≤ 1099511627776) (hi : ¬ (index < 1 ∨ of < index ∨ 400 < of)) :
    ∃ a b, toDateV base index of al ex t = (a, 0) ∧ toDateV base index of (al + more) ex t = (b, 0) ∧ toDateV base index of al ex [] = (0, 0) ∧ b ≤ a := by
  have hd : 0 < of * 1000000 := by omega
  have hz : ∀ z, restV base index of z = max 0 (base * of - z * index) := fun _ => rfl
  have e0 := Int.mul_nonneg hm0 (show 0 ≤ index by omega)
  have e1 : restV base index of (al + more) ≤ restV base index of al := by rw [hz, hz, Int.add_mul]; omega
  obtain ⟨d1, _⟩ := tot_diff h.right e1 (show 1 ≤ index by omega) t.length (Nat.le_refl _)
  have e3 := half_mono hd d1
  have e4 := (half_le_base (base := base) (al := al) (ex := ex) h (show 1 ≤ index by omega) (show index ≤ of by omega)).2
  have hf : fitsB base = true := by unfold fitsB; simp; omega
  have ha : amountB (al + more) = true := by have := h.al0; have := h.al1; unfold amountB; simp; omega
  have ha' : amountB al = true := by have := h.al0; have := h.al1; unfold amountB; simp; omega
  have he : amountB ex = true := by have := h.ex0; have := h.ex1; unfold amountB; simp; omega
  refine ⟨_, _, toDate_val h (by omega) (by omega) hi, ?_, ?_, e3⟩
  · unfold toDateV
    rw [if_neg hi, if_neg (by simp [hf]), if_neg (by simp [ha]), if_neg (by simp [he])]
    unfold scaledE
    rw [if_neg (by simp [h.right.chk])]
    unfold scaledV
    rw [← hz, if_neg (by omega)]
  · unfold toDateV
    rw [if_neg hi, if_neg (by simp [hf]), if_neg (by simp [ha']), if_neg (by simp [he])]
    unfold scaledE
    rw [if_neg (by decide)]
    unfold scaledV
    rw [show ([] : List (Int × Int)).length = 0 from rfl, tot_nil, half_zero hd, if_neg (by omega)]

/-! ### TaxEven: a year of one base -/
theorem tot_scale (z : Int) (t : List (Int × Int)) (i : Int) (hi : 1 ≤ i) : ∀ k, k ≤ t.length → tot (i * z) i t k = i * tot z 1 t k := by
  intro k
  induction k with
  | zero => intro _; simp [tot, ylds, sumP]
  | succ k ih =>
    intro hk
    rw [tot_succ, tot_succ, ih (by omega)]
    have hb : bTo (i * z) i t k = i * bTo z 1 t k := by
      unfold bTo
      split
      · rw [Int.mul_one, Int.mul_comm (bF t (k + 1)) i]
        by_cases h : z ≤ bF t (k + 1)
        · rw [show min z (bF t (k + 1)) = z by omega]
          have := Int.mul_le_mul_of_nonneg_left h (show 0 ≤ i by omega)
          omega
        · rw [show min z (bF t (k + 1)) = bF t (k + 1) by omega]
          have := Int.mul_le_mul_of_nonneg_left (show bF t (k + 1) ≤ z by omega) (show 0 ≤ i by omega)
          omega
      · rfl
    rw [hb, Int.mul_comm (bF t k) i, Int.mul_one]
    by_cases hc : bF t k < bTo z 1 t k
    · rw [if_pos hc, if_pos (Int.mul_lt_mul_of_pos_left hc (by omega)), ← Int.mul_sub, Int.mul_add]
      congr 1
      rw [← Int.mul_assoc, ← Int.mul_assoc, Int.mul_comm (bR t k) i]
    · rw [if_neg hc, if_neg]
      intro h
      have := Int.mul_le_mul_of_nonneg_left (show bTo z 1 t k ≤ bF t k by omega) (show 0 ≤ i by omega)
      omega
theorem half_step (X T den : Int) (hd : 0 < den) : T / den ≤ half (X + T) den - half X den ∧ half (X + T) den - half X den ≤ T / den + 1 := by
  rw [half_eq _ _ hd, half_eq _ _ hd]
  have e1 := Int.mul_ediv_add_emod T den
  have b1 := Int.emod_nonneg T (show den ≠ 0 by omega)
  have b2 := Int.emod_lt_of_pos T hd
  have h : 2 * (X + T) + den = 2 * X + den + 2 * (T % den) + 2 * den * (T / den) := by rw [Int.mul_assoc]; omega
  rw [h, Int.add_mul_ediv_left _ _ (by omega)]
  have h1 := Int.ediv_le_ediv (show 0 < 2 * den by omega) (show 2 * X + den ≤ 2 * X + den + 2 * (T % den) by omega)
  have h2 := Int.ediv_le_ediv (show 0 < 2 * den by omega) (show 2 * X + den + 2 * (T % den) ≤ 2 * X + den + 2 * den * 1 by omega)
  rw [Int.add_mul_ediv_left _ _ (by omega)] at h2
  omega
/-- A year's tax to date, period by period. -/
def taxAt (base n al : Int) (t : List (Int × Int)) (i : Int) : Int := half (i * tot (max 0 (base * n - al)) 1 t t.length) (n * 1000000)
theorem toDate_even {base n al ex : Int} {t : List (Int × Int)} (h : RightP t al ex) (hb0 : 0 ≤ base) (hb1 : base ≤ 1099511627776) (i : Int) (hi : 1 ≤ i) (hin : i ≤ n) (hn : n ≤ 60) :
    toDateV (i * base) i n al ex t = (taxAt base n al t i, 0) ∧ 0 ≤ taxAt base n al t i ∧ taxAt base n al t i ≤ i * base := by
  have e0 := Int.mul_nonneg (show 0 ≤ i by omega) hb0
  have e1 : i * base ≤ 60 * 1099511627776 := Int.mul_le_mul (by omega) hb1 hb0 (by omega)
  have hr : restV (i * base) i n al = i * max 0 (base * n - al) := by
    unfold restV
    have h1 : i * base * n - al * i = i * (base * n - al) := by rw [Int.mul_sub, Int.mul_assoc, Int.mul_comm al i]
    rw [h1]
    by_cases hz : 0 ≤ base * n - al
    · rw [show max 0 (base * n - al) = base * n - al by omega]
      have := Int.mul_nonneg (show 0 ≤ i by omega) hz
      omega
    · rw [show max 0 (base * n - al) = 0 by omega, Int.mul_zero]
      have := Int.mul_nonneg (show 0 ≤ i by omega) (show 0 ≤ -(base * n - al) by omega)
      rw [Int.mul_neg] at this
      omega
  have h2 := toDate_val (base := i * base) (index := i) (of := n) h (by omega) (by omega) (by omega)
  have h3 := half_le_base (base := i * base) (index := i) (of := n) (al := al) (ex := ex) h hi hin
  rw [hr, tot_scale _ t i hi _ (Nat.le_refl _)] at h2 h3
  exact ⟨h2, h3.1, by have := h3.2; unfold taxAt; omega⟩
theorem taxAt_zero (base n al : Int) (t : List (Int × Int)) (hn : 1 ≤ n) : taxAt base n al t 0 = 0 := by
  unfold taxAt; rw [Int.zero_mul, half_zero (by omega)]
theorem taxAt_step (base n al : Int) (t : List (Int × Int)) (i : Int) (hn : 1 ≤ n) :
    tot (max 0 (base * n - al)) 1 t t.length / (n * 1000000) ≤ taxAt base n al t (i + 1) - taxAt base n al t i ∧ taxAt base n al t (i + 1) - taxAt base n al t i ≤ tot (max 0 (base * n - al)) 1 t t.length / (n * 1000000) + 1 := by
  unfold taxAt
  rw [Int.add_mul, Int.one_mul]
  exact half_step _ _ _ (by omega)
end Go.Proofs.Ytkpfjabeppdjlaa
