/- The calendar in plain numbers: years, months, days from 1900-01-01 on. -/
import Derived.Deep.QuietTactic
namespace Go.Proofs.YtkbpdbfldijeeaaDoor
namespace Cal
/-- A leap year's day: 1 or 0. -/
def lp (y : Int) : Int := if y % 4 = 0 ∧ (y % 100 ≠ 0 ∨ y % 400 = 0) then 1 else 0
/-- Days of a month 1 to 12. -/
def dim (y m : Int) : Int := if m = 2 then 28 + lp y else if m = 4 ∨ m = 6 ∨ m = 9 ∨ m = 11 then 30 else 31
/-- Days ahead of a year, from 1900 on. -/
def st (y : Int) : Int := 365 * (y - 1900) + (y - 1) / 4 - (y - 1) / 100 + (y - 1) / 400 - 460
/-- Days ahead of a month in its year. -/
def cum (y m : Int) : Int :=
  if m ≤ 1 then 0 else if m = 2 then 31 else (if m = 3 then 59 else if m = 4 then 90 else if m = 5 then 120 else if m = 6 then 151 else if m = 7 then 181 else if m = 8 then 212 else if m = 9 then 243 else if m = 10 then 273 else if m = 11 then 304 else if m = 12 then 334 else 365) + lp y
/-- The number of a date's day, from 0 on. -/
def num (y m d : Int) : Int := st y + cum y m + d - 1
structure Ok (y m d : Int) : Prop where
  y1 : 1900 ≤ y
  y2 : y ≤ 2199
  m1 : 1 ≤ m
  m2 : m ≤ 12
  d1 : 1 ≤ d
  d2 : d ≤ dim y m
theorem lp_01 (y : Int) : 0 ≤ lp y ∧ lp y ≤ 1 := by unfold lp; split <;> omega
theorem st_succ (y : Int) : st (y + 1) = st y + 365 + lp y := by unfold st lp; split <;> omega
theorem st_1900 : st 1900 = 0 := by decide
theorem st_2200 : st 2200 = 109573 := by decide
theorem st_mono {a b : Int} (h : a ≤ b) : st a + 365 * (b - a) ≤ st b := by
  obtain ⟨k, rfl⟩ : ∃ k : Nat, b = a + k := ⟨(b - a).toNat, by omega⟩
  clear h
  induction k with
  | zero => simp
  | succ k ih =>
    have h1 := st_succ (a + k)
    have h2 := lp_01 (a + k)
    rw [show a + ((k + 1 : Nat) : Int) = a + k + 1 by omega]
    omega
theorem st_bd {y : Int} (h1 : 1900 ≤ y) (h2 : y ≤ 2200) : 0 ≤ st y ∧ st y ≤ 109573 := by
  have a := st_mono h1
  have b := st_mono h2
  rw [st_1900] at a
  rw [st_2200] at b
  omega
theorem dim_bd (y m : Int) : 28 ≤ dim y m ∧ dim y m ≤ 31 := by
  have := lp_01 y
  unfold dim
  split
  · omega
  · split <;> omega
theorem cum_1 (y : Int) : cum y 1 = 0 := rfl
theorem cum_13 (y : Int) : cum y 13 = 365 + lp y := rfl
theorem cum_succ {y m : Int} (h1 : 1 ≤ m) (h2 : m ≤ 12) : cum y (m + 1) = cum y m + dim y m := by
  have : m = 1 ∨ m = 2 ∨ m = 3 ∨ m = 4 ∨ m = 5 ∨ m = 6 ∨ m = 7 ∨ m = 8 ∨ m = 9 ∨ m = 10 ∨ m = 11 ∨ m = 12 := by omega
  rcases this with rfl | rfl | rfl | rfl | rfl | rfl | rfl | rfl | rfl | rfl | rfl | rfl <;> simp [cum, dim] <;> omega
theorem cum_mono {y a b : Int} (h1 : 1 ≤ a) (h : a ≤ b) (h2 : b ≤ 13) : cum y a + 28 * (b - a) ≤ cum y b := by
  obtain ⟨k, rfl⟩ : ∃ k : Nat, b = a + k := ⟨(b - a).toNat, by omega⟩
  clear h
  induction k with
  | zero => simp
  | succ k ih =>
    have h1 := cum_succ (y := y) (m := a + k) (by omega) (by omega)
    have h2 := dim_bd y (a + k)
    have h3 := ih (by omega)
    rw [show a + ((k + 1 : Nat) : Int) = a + k + 1 by omega]
    omega
theorem cum_bd {y m : Int} (h1 : 1 ≤ m) (h2 : m ≤ 12) : 0 ≤ cum y m ∧ cum y m + dim y m ≤ 365 + lp y := by
  have a := cum_mono (y := y) (a := 1) (b := m) (by omega) h1 (by omega)
  have b := cum_mono (y := y) (a := m + 1) (b := 13) (by omega) (by omega) (by omega)
  have c := cum_succ (y := y) h1 h2
  rw [cum_13] at b
  rw [cum_1] at a
  omega
theorem Ok.bd {y m d : Int} (h : Ok y m d) : st y ≤ num y m d ∧ num y m d < st (y + 1) ∧ 0 ≤ num y m d ∧ num y m d ≤ 109572 := by
  have a := cum_bd (y := y) h.m1 h.m2
  have b := st_succ y
  have c := h.d1
  have e := h.d2
  have f := st_bd h.y1 (by have := h.y2; omega)
  have g := st_bd (y := y + 1) (by have := h.y1; omega) (by have := h.y2; omega)
  unfold num
  omega
theorem year_of {y n y' : Int} (h1 : st y ≤ n) (h2 : n < st (y + 1)) (h3 : st y' ≤ n) (h4 : n < st (y' + 1)) : y = y' := by
  by_cases a : y + 1 ≤ y'
  · have := st_mono a; omega
  · by_cases b : y' + 1 ≤ y
    · have := st_mono b; omega
    · omega
theorem month_of {y m n m' : Int} (m1 : 1 ≤ m) (m2 : m ≤ 12) (m1' : 1 ≤ m') (m2' : m' ≤ 12) (h1 : cum y m ≤ n) (h2 : n < cum y m + dim y m) (h3 : cum y m' ≤ n) (h4 : n < cum y m' + dim y m') : m = m' := by
  rw [← cum_succ m1 m2] at h2
  rw [← cum_succ m1' m2'] at h4
  by_cases a : m + 1 ≤ m'
  · have := cum_mono (y := y) (by omega) a (by omega); omega
  · by_cases b : m' + 1 ≤ m
    · have := cum_mono (y := y) (by omega) b (by omega); omega
    · omega
theorem Ok.inj {y m d y' m' d' : Int} (h : Ok y m d) (h' : Ok y' m' d') (e : num y m d = num y' m' d') : y = y' ∧ m = m' ∧ d = d' := by
  have a := h.bd
  have b := h'.bd
  have e1 : y = y' := year_of a.1 a.2.1 (e ▸ b.1) (e ▸ b.2.1)
  subst e1
  have e2 : cum y m + d = cum y m' + d' := by unfold num at e; omega
  have e3 : m = m' := month_of (y := y) (n := cum y m + d - 1) h.m1 h.m2 h'.m1 h'.m2 (by have := h.d1; omega) (by have := h.d2; omega) (by have := h'.d1; omega) (by have := h'.d2; omega)
  subst e3
  exact ⟨rfl, rfl, by omega⟩
theorem st_le (k : Nat) : st (1900 + k) ≤ 366 * k := by
  induction k with
  | zero => simp [st_1900]
  | succ k ih =>
    have h1 := st_succ (1900 + k)
    have h2 := lp_01 (1900 + k)
    rw [show (1900 : Int) + ((k + 1 : Nat) : Int) = 1900 + k + 1 by omega]
    omega
/-- Behind a guess of the year: what it is at most. -/
theorem guess {n : Int} (h0 : 0 ≤ n) (h : n ≤ 109572) : st (1900 + n / 366) ≤ n ∧ 1900 + n / 366 ≤ 2199 := by
  have := st_le (n / 366).toNat
  rw [show ((n / 366).toNat : Int) = n / 366 by omega] at this
  omega
theorem year_ex {n : Int} (h0 : 0 ≤ n) : ∀ k : Nat, n < st (1900 + k) → ∃ y : Int, 1900 ≤ y ∧ y < 1900 + k ∧ st y ≤ n ∧ n < st (y + 1) := by
  intro k
  induction k with
  | zero => intro h; rw [show (1900 : Int) + ((0 : Nat) : Int) = 1900 by omega, st_1900] at h; omega
  | succ k ih =>
    intro h
    by_cases c : n < st (1900 + k)
    · obtain ⟨y, a, b, e⟩ := ih c
      exact ⟨y, a, by omega, e⟩
    · exact ⟨1900 + k, by omega, by omega, by omega, by rw [show (1900 : Int) + k + 1 = 1900 + ((k + 1 : Nat) : Int) by omega]; exact h⟩
theorem month_ex {y r : Int} (h0 : 0 ≤ r) : ∀ k : Nat, k ≤ 12 → r < cum y (1 + k) → ∃ m : Int, 1 ≤ m ∧ m ≤ k ∧ cum y m ≤ r ∧ r < cum y m + dim y m := by
  intro k
  induction k with
  | zero => intro _ h; rw [show (1 : Int) + ((0 : Nat) : Int) = 1 by omega, cum_1] at h; omega
  | succ k ih =>
    intro hk h
    by_cases c : r < cum y (1 + k)
    · obtain ⟨m, a, b, e⟩ := ih (by omega) c
      exact ⟨m, a, by omega, e⟩
    · refine ⟨1 + k, by omega, by omega, by omega, ?_⟩
      rw [← cum_succ (by omega) (by omega), show (1 : Int) + k + 1 = 1 + ((k + 1 : Nat) : Int) by omega]; exact h
/-- Every number of the calendar is a date's. -/
theorem ex {n : Int} (h0 : 0 ≤ n) (h : n ≤ 109572) : ∃ y m d, Ok y m d ∧ num y m d = n := by
  obtain ⟨y, y1, y2, y3, y4⟩ := year_ex h0 300 (by rw [show (1900 : Int) + ((300 : Nat) : Int) = 2200 by omega, st_2200]; omega)
  rw [st_succ] at y4
  obtain ⟨m, m1, m2, m3, m4⟩ := month_ex (y := y) (r := n - st y) (by omega) 12 (by omega) (by rw [show (1 : Int) + ((12 : Nat) : Int) = 13 by omega, cum_13]; omega)
  exact ⟨y, m, n - st y - cum y m + 1, ⟨y1, by omega, m1, m2, by omega, by omega⟩, by unfold num; omega⟩
theorem ok_jan {y : Int} (h1 : 1900 ≤ y) (h2 : y ≤ 2199) : Ok y 1 1 := ⟨h1, h2, by omega, by omega, by omega, by have := dim_bd y 1; omega⟩
theorem num_jan (y : Int) : num y 1 1 = st y := by unfold num; rw [cum_1]; omega
theorem Ok.le_year {y m d t : Int} (h : Ok y m d) (ht : st t ≤ num y m d) : t ≤ y := by
  have a := h.bd
  by_cases c : y + 1 ≤ t
  · have := st_mono c; omega
  · omega
theorem Ok.year_up {y m d t : Int} (h : Ok y m d) (ht : t < y) : st (t + 1) ≤ num y m d := by
  have a := h.bd
  have := st_mono (show t + 1 ≤ y by omega); omega
theorem Ok.month_up {y m d t : Int} (h : Ok y m d) (h1 : 1 ≤ t) (ht : t < m) : cum y t + dim y t ≤ num y m d - st y := by
  have a := cum_mono (y := y) (a := t + 1) (b := m) (by omega) (by omega) (by have := h.m2; omega)
  rw [cum_succ h1 (by have := h.m2; omega)] at a
  have := h.d1
  unfold num; omega
end Cal
end Go.Proofs.YtkbpdbfldijeeaaDoor
