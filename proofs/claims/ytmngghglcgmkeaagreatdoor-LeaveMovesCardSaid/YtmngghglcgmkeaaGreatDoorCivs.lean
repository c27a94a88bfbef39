/- Merged from: Cal Civ Ciw. -/
import Derived.Deep.QuietTactic
import Derived.Test.YtmngghglcgmkeaaGreatDoorProg
import Derived.Test.YtmngghglcgmkeaaGreatDoorGrow
import Derived.IntWalk
/- The calendar in plain numbers: years, months, days from 1900-01-01 on. -/
namespace Go.Proofs.YtmngghglcgmkeaaGreatDoor
namespace Cal
/-- A leap year's day: 1 or 0. -/
def lp (y : Int) : Int := if y % 4 = 0 ∧ (y % 100 ≠ 0 ∨ y % 400 = 0) then 1 else 0
/-- Days of a month 1 to 12. -/
def dim (y m : Int) : Int := if m = 2 then 28 + lp y else if m = 4 ∨ m = 6 ∨ m = 9 ∨ m = 11 then 30 else 31
/-- Days ahead of a year, from 1900 on. -/
def st (y : Int) : Int := 365 * (y - 1900) + (y - 1) / 4 - (y - 1) / 100 + (y - 1) / 400 - 460
/-- Days ahead of a month in its year. -/
def cum (y m : Int) : Int :=
  if m ≤ 1 then 0 else if m = 2 then 31 else (if m = 3 then 59 else if m = 4 then 90 else if m = 5 then 120 else if m = 6 then 151 else if m = 7 then 181 else if m = 8 then 212 else if m = 9 then 243 else if m = 10 then 273 else if m = 11 then 304 else if m = 12 then 334 else 365) + lp y
/-- The number of a date's day, from 0 on. -/
def num (y m d : Int) : Int := st y + cum y m + d - 1
structure Ok (y m d : Int) : Prop where
  y1 : 1900 ≤ y
  y2 : y ≤ 2199
  m1 : 1 ≤ m
  m2 : m ≤ 12
  d1 : 1 ≤ d
  d2 : d ≤ dim y m
theorem lp_01 (y : Int) : 0 ≤ lp y ∧ lp y ≤ 1 := by unfold lp; split <;> omega
theorem st_succ (y : Int) : st (y + 1) = st y + 365 + lp y := by unfold st lp; split <;> omega
theorem st_1900 : st 1900 = 0 := by decide
theorem st_2200 : st 2200 = 109573 := by decide
theorem st_mono {a b : Int} (h : a ≤ b) : st a + 365 * (b - a) ≤ st b := by
  obtain ⟨k, rfl⟩ : ∃ k : Nat, b = a + k := ⟨(b - a).toNat, by omega⟩
  clear h
  induction k with
  | zero => simp
  | succ k ih =>
    have h1 := st_succ (a + k)
    have h2 := lp_01 (a + k)
    rw [show a + ((k + 1 : Nat) : Int) = a + k + 1 by omega]
    omega
theorem st_bd {y : Int} (h1 : 1900 ≤ y) (h2 : y ≤ 2200) : 0 ≤ st y ∧ st y ≤ 109573 := by
  have a := st_mono h1
  have b := st_mono h2
  rw [st_1900] at a
  rw [st_2200] at b
  omega
theorem dim_bd (y m : Int) : 28 ≤ dim y m ∧ dim y m ≤ 31 := by
  have := lp_01 y
  unfold dim
  split
  · omega
  · split <;> omega
theorem cum_1 (y : Int) : cum y 1 = 0 := rfl
theorem cum_13 (y : Int) : cum y 13 = 365 + lp y := rfl
theorem cum_succ {y m : Int} (h1 : 1 ≤ m) (h2 : m ≤ 12) : cum y (m + 1) = cum y m + dim y m := by
  have : m = 1 ∨ m = 2 ∨ m = 3 ∨ m = 4 ∨ m = 5 ∨ m = 6 ∨ m = 7 ∨ m = 8 ∨ m = 9 ∨ m = 10 ∨ m = 11 ∨ m = 12 := by omega
  rcases this with rfl | rfl | rfl | rfl | rfl | rfl | rfl | rfl | rfl | rfl | rfl | rfl <;> simp [cum, dim] <;> omega
theorem cum_mono {y a b : Int} (h1 : 1 ≤ a) (h : a ≤ b) (h2 : b ≤ 13) : cum y a + 28 * (b - a) ≤ cum y b := by
  obtain ⟨k, rfl⟩ : ∃ k : Nat, b = a + k := ⟨(b - a).toNat, by omega⟩
  clear h
  induction k with
  | zero => simp
  | succ k ih =>
    have h1 := cum_succ (y := y) (m := a + k) (by omega) (by omega)
    have h2 := dim_bd y (a + k)
    have h3 := ih (by omega)
    rw [show a + ((k + 1 : Nat) : Int) = a + k + 1 by omega]
    omega
theorem cum_bd {y m : Int} (h1 : 1 ≤ m) (h2 : m ≤ 12) : 0 ≤ cum y m ∧ cum y m + dim y m ≤ 365 + lp y := by
  have a := cum_mono (y := y) (a := 1) (b := m) (by omega) h1 (by omega)
  have b := cum_mono (y := y) (a := m + 1) (b := 13) (by omega) (by omega) (by omega)
  have c := cum_succ (y := y) h1 h2
  rw [cum_13] at b
  rw [cum_1] at a
  omega
theorem Ok.bd {y m d : Int} (h : Ok y m d) : st y ≤ num y m d ∧ num y m d < st (y + 1) ∧ 0 ≤ num y m d ∧ num y m d ≤ 109572 := by
  have a := cum_bd (y := y) h.m1 h.m2
  have b := st_succ y
  have c := h.d1
  have e := h.d2
  have f := st_bd h.y1 (by have := h.y2; omega)
  have g := st_bd (y := y + 1) (by have := h.y1; omega) (by have := h.y2; omega)
  unfold num
  omega
theorem year_of {y n y' : Int} (h1 : st y ≤ n) (h2 : n < st (y + 1)) (h3 : st y' ≤ n) (h4 : n < st (y' + 1)) : y = y' := by
  by_cases a : y + 1 ≤ y'
  · have := st_mono a; omega
  · by_cases b : y' + 1 ≤ y
    · have := st_mono b; omega
    · omega
theorem month_of {y m n m' : Int} (m1 : 1 ≤ m) (m2 : m ≤ 12) (m1' : 1 ≤ m') (m2' : m' ≤ 12) (h1 : cum y m ≤ n) (h2 : n < cum y m + dim y m) (h3 : cum y m' ≤ n) (h4 : n < cum y m' + dim y m') : m = m' := by
  rw [← cum_succ m1 m2] at h2
  rw [← cum_succ m1' m2'] at h4
  by_cases a : m + 1 ≤ m'
  · have := cum_mono (y := y) (by omega) a (by omega); omega
  · by_cases b : m' + 1 ≤ m
    · have := cum_mono (y := y) (by omega) b (by omega); omega
    · omega
theorem Ok.inj {y m d y' m' d' : Int} (h : Ok y m d) (h' : Ok y' m' d') (e : num y m d = num y' m' d') : y = y' ∧ m = m' ∧ d = d' := by
  have a := h.bd
  have b := h'.bd
  have e1 : y = y' := year_of a.1 a.2.1 (e ▸ b.1) (e ▸ b.2.1)
  subst e1
  have e2 : cum y m + d = cum y m' + d' := by unfold num at e; omega
  have e3 : m = m' := month_of (y := y) (n := cum y m + d - 1) h.m1 h.m2 h'.m1 h'.m2 (by have := h.d1; omega) (by have := h.d2; omega) (by have := h'.d1; omega) (by have := h'.d2; omega)
  subst e3
  exact ⟨rfl, rfl, by omega⟩
theorem st_le (k : Nat) : st (1900 + k) ≤ 366 * k := by
  induction k with
  | zero => simp [st_1900]
  | succ k ih =>
    have h1 := st_succ (1900 + k)
    have h2 := lp_01 (1900 + k)
    rw [show (1900 : Int) + ((k + 1 : Nat) : Int) = 1900 + k + 1 by omega]
    omega
/-- Behind a guess of the year: what it is at most. -/
theorem guess {n : Int} (h0 : 0 ≤ n) (h : n ≤ 109572) : st (1900 + n / 366) ≤ n ∧ 1900 + n / 366 ≤ 2199 := by
  have := st_le (n / 366).toNat
  rw [show ((n / 366).toNat : Int) = n / 366 by omega] at this
  omega
theorem year_ex {n : Int} (h0 : 0 ≤ n) : ∀ k : Nat, n < st (1900 + k) → ∃ y : Int, 1900 ≤ y ∧ y < 1900 + k ∧ st y ≤ n ∧ n < st (y + 1) := by
  intro k
  induction k with
  | zero => intro h; rw [show (1900 : Int) + ((0 : Nat) : Int) = 1900 by omega, st_1900] at h; omega
  | succ k ih =>
    intro h
    by_cases c : n < st (1900 + k)
    · obtain ⟨y, a, b, e⟩ := ih c
      exact ⟨y, a, by omega, e⟩
    · exact ⟨1900 + k, by omega, by omega, by omega, by rw [show (1900 : Int) + k + 1 = 1900 + ((k + 1 : Nat) : Int) by omega]; exact h⟩
theorem month_ex {y r : Int} (h0 : 0 ≤ r) : ∀ k : Nat, k ≤ 12 → r < cum y (1 + k) → ∃ m : Int, 1 ≤ m ∧ m ≤ k ∧ cum y m ≤ r ∧ r < cum y m + dim y m := by
  intro k
  induction k with
  | zero => intro _ h; rw [show (1 : Int) + ((0 : Nat) : Int) = 1 by omega, cum_1] at h; omega
  | succ k ih =>
    intro hk h
    by_cases c : r < cum y (1 + k)
    · obtain ⟨m, a, b, e⟩ := ih (by omega) c
      exact ⟨m, a, by omega, e⟩
    · refine ⟨1 + k, by omega, by omega, by omega, ?_⟩
      rw [← cum_succ (by omega) (by omega), show (1 : Int) + k + 1 = 1 + ((k + 1 : Nat) : Int) by omega]; exact h
/-- Every number of the calendar is a date's. -/
theorem ex {n : Int} (h0 : 0 ≤ n) (h : n ≤ 109572) : ∃ y m d, Ok y m d ∧ num y m d = n := by
  obtain ⟨y, y1, y2, y3, y4⟩ := year_ex h0 300 (by rw [show (1900 : Int) + ((300 : Nat) : Int) = 2200 by omega, st_2200]; omega)
  rw [st_succ] at y4
  obtain ⟨m, m1, m2, m3, m4⟩ := month_ex (y := y) (r := n - st y) (by omega) 12 (by omega) (by rw [show (1 : Int) + ((12 : Nat) : Int) = 13 by omega, cum_13]; omega)
  exact ⟨y, m, n - st y - cum y m + 1, ⟨y1, by omega, m1, m2, by omega, by omega⟩, by unfold num; omega⟩
theorem ok_jan {y : Int} (h1 : 1900 ≤ y) (h2 : y ≤ 2199) : Ok y 1 1 := ⟨h1, h2, by omega, by omega, by omega, by have := dim_bd y 1; omega⟩
theorem num_jan (y : Int) : num y 1 1 = st y := by unfold num; rw [cum_1]; omega
theorem Ok.le_year {y m d t : Int} (h : Ok y m d) (ht : st t ≤ num y m d) : t ≤ y := by
  have a := h.bd
  by_cases c : y + 1 ≤ t
  · have := st_mono c; omega
  · omega
theorem Ok.year_up {y m d t : Int} (h : Ok y m d) (ht : t < y) : st (t + 1) ≤ num y m d := by
  have a := h.bd
  have := st_mono (show t + 1 ≤ y by omega); omega
theorem Ok.month_up {y m d t : Int} (h : Ok y m d) (h1 : 1 ≤ t) (ht : t < m) : cum y t + dim y t ≤ num y m d - st y := by
  have a := cum_mono (y := y) (a := t + 1) (b := m) (by omega) (by omega) (by have := h.m2; omega)
  rw [cum_succ h1 (by have := h.m2; omega)] at a
  have := h.d1
  unfold num; omega
end Cal
end Go.Proofs.YtmngghglcgmkeaaGreatDoor

/- Contracts of the calendar's functions (package civil). -/
namespace Go.Proofs.YtmngghglcgmkeaaGreatDoor
open Go.RowKit Go.Sort Go.BigFrame

/-- The months' lengths, as the variable holds them. -/
def monthL : List Int := [31, 28, 31, 30, 31, 30, 31, 31, 30, 31, 30, 31]
def Tab (w : World) : Prop := 0 < w.heap.size ∧ ∀ i : Nat, i < 12 → w.cell? ⟨0, i, none⟩ = some (.int .i64 (monthL.getD i 0))
theorem Tab.grows {a b : World} (h : Tab a) (k : Grows a b) : Tab b := ⟨Nat.lt_of_lt_of_le h.1 k.size, fun i hi => k.cell h.1 (h.2 i hi)⟩
def mdV (y m : Int) : Int := if y < 1900 ∨ 2199 < y ∨ m < 1 ∨ 12 < m then 0 else Cal.dim y m
theorem monthL_at {y m : Int} (h1 : 1 ≤ m) (h2 : m ≤ 12) (h : m ≠ 2 ∨ Cal.lp y = 0) : monthL.getD (m - 1).toNat 0 = Cal.dim y m := by
  have : m = 1 ∨ m = 2 ∨ m = 3 ∨ m = 4 ∨ m = 5 ∨ m = 6 ∨ m = 7 ∨ m = 8 ∨ m = 9 ∨ m = 10 ∨ m = 11 ∨ m = 12 := by omega
  rcases this with rfl | rfl | rfl | rfl | rfl | rfl | rfl | rfl | rfl | rfl | rfl | rfl <;> simp [monthL, Cal.dim] <;> omega

theorem civ_in (d : Int) (w : World) (hd : -9223372036854775808 ≤ d ∧ d ≤ 9223372036854775807) : Calls Tryz.prog 68 #[.int .i64 d] w fun e w' => e = .returned (.bool (decide (-25567 ≤ d ∧ d ≤ 84005))) ∧ w = w' := by
  go_enter Tryz.func68, Tryz.ntmps68
  by_cases h1 : -25567 ≤ d
  · go_wp2
    go_ret
    exact ⟨ret_b (by simp [h1]; omega), rfl⟩
  · go_wp2
    go_ret
    exact ⟨ret_b (by simp; omega), rfl⟩

theorem lp_yes {y : Int} (h1 : y % 4 = 0) (h2 : y % 100 ≠ 0 ∨ y % 400 = 0) : decide (Cal.lp y = 1) = true := by simp [Cal.lp, h1, h2]
theorem lp_no4 {y : Int} (h1 : y % 4 ≠ 0) : decide (Cal.lp y = 1) = false := by simp [Cal.lp, h1]
theorem lp_no {y : Int} (h2 : y % 100 = 0) (h3 : y % 400 ≠ 0) : decide (Cal.lp y = 1) = false := by simp [Cal.lp, h2, h3]
theorem civ_leap (y : Int) (w : World) (h1 : 0 ≤ y) (h2 : y ≤ 10000) : Calls Tryz.prog 122 #[.int .i64 y] w fun e w' => e = .returned (.bool (decide (Cal.lp y = 1))) ∧ w = w' := by
  by_cases c4 : y % 4 = 0
  · by_cases c100 : y % 100 = 0
    · by_cases c400 : y % 400 = 0
      · have L := Lib.hid (lp_yes c4 (.inr c400))
        have e1 : (y % 4 == 0) = true := by simp [c4]
        have e2 : (y % 100 != 0) = false := by simp [c100]
        have e3 : (y % 400 == 0) = true := by simp [c400]
        clear c4 c100 c400
        go_enter Tryz.func122, Tryz.ntmps122
        go_wp2
        go_ret
        exact ⟨ret_b L.out.symm, rfl⟩
      · have L := Lib.hid (lp_no c100 c400)
        have e1 : (y % 4 == 0) = true := by simp [c4]
        have e2 : (y % 100 != 0) = false := by simp [c100]
        have e3 : (y % 400 == 0) = false := by simp [c400]
        clear c4 c100 c400
        go_enter Tryz.func122, Tryz.ntmps122
        go_wp2
        go_ret
        exact ⟨ret_b L.out.symm, rfl⟩
    · have L := Lib.hid (lp_yes c4 (.inl c100))
      have e1 : (y % 4 == 0) = true := by simp [c4]
      have e2 : (y % 100 != 0) = true := by simp [c100]
      clear c4 c100
      go_enter Tryz.func122, Tryz.ntmps122
      go_wp2
      go_ret
      exact ⟨ret_b L.out.symm, rfl⟩
  · have L := Lib.hid (lp_no4 c4)
    have e1 : (y % 4 == 0) = false := by simp [c4]
    clear c4
    go_enter Tryz.func122, Tryz.ntmps122
    go_wp2
    go_ret
    exact ⟨ret_b L.out.symm, rfl⟩

theorem civ_start (y : Int) (w : World) (h1 : 1 ≤ y) (h2 : y ≤ 10000) : Calls Tryz.prog 102 #[.int .i64 y] w fun e w' => e = .returned (.int .i64 (Cal.st y)) ∧ w = w' := by
  go_enter Tryz.func102, Tryz.ntmps102
  go_wp2
  go_ret
  exact ⟨ret_i (by unfold Cal.st; omega), rfl⟩

theorem civ_MonthDays (y m : Int) (w : World) (ht : Tab w) : Calls Tryz.prog 101 #[.int .i64 y, .int .i64 m] w fun e w' => e = .returned (.int .i64 (mdV y m)) ∧ w = w' := by
  by_cases hy1 : y < 1900
  · have L := Lib.hid (show mdV y m = 0 from if_pos (by omega))
    go_enter Tryz.func101, Tryz.ntmps101
    go_wp2
    go_ret
    exact ⟨ret_i L.out.symm, rfl⟩
  by_cases hy2 : 2199 < y
  · have L := Lib.hid (show mdV y m = 0 from if_pos (by omega))
    go_enter Tryz.func101, Tryz.ntmps101
    go_wp2
    go_ret
    exact ⟨ret_i L.out.symm, rfl⟩
  by_cases hm1 : m < 1
  · have L := Lib.hid (show mdV y m = 0 from if_pos (by omega))
    go_enter Tryz.func101, Tryz.ntmps101
    go_wp2
    go_ret
    exact ⟨ret_i L.out.symm, rfl⟩
  by_cases hm2 : 12 < m
  · have L := Lib.hid (show mdV y m = 0 from if_pos (by omega))
    go_enter Tryz.func101, Tryz.ntmps101
    go_wp2
    go_ret
    exact ⟨ret_i L.out.symm, rfl⟩
  have L := Lib.hid (show mdV y m = Cal.dim y m from if_neg (by omega))
  have hc := ht.2 (m - 1).toNat (by omega)
  by_cases h2 : m = 2
  · subst h2
    by_cases hl : Cal.lp y = 1
    · have D := Lib.hid (show Cal.dim y 2 = 29 by unfold Cal.dim; rw [if_pos rfl, hl]; rfl)
      have hd : decide (Cal.lp y = 1) = true := decide_eq_true hl
      clear hl hc
      go_enter Tryz.func101, Tryz.ntmps101
      go_wp2_with fail
      refine (civ_leap y _ (by omega) (by omega)).mono ?_
      rintro e w1 ⟨rfl, rfl⟩
      rw [hd]
      go_wp2
      go_ret
      exact ⟨ret_i (by rw [L.out, D.out]), rfl⟩
    · have D := Lib.hid (show Cal.dim y 2 = 28 by have := Cal.lp_01 y; unfold Cal.dim; rw [if_pos rfl]; omega)
      have hd : decide (Cal.lp y = 1) = false := decide_eq_false hl
      have hc2 : w.cell? ⟨0, 1, none⟩ = some (.int .i64 28) := hc
      clear hl hc
      go_enter Tryz.func101, Tryz.ntmps101
      go_wp2_with fail
      refine (civ_leap y _ (by omega) (by omega)).mono ?_
      rintro e w1 ⟨rfl, rfl⟩
      rw [hd]
      go_wp2
      go_ret
      exact ⟨ret_i (by rw [L.out, D.out]), rfl⟩
  · have e2 : (m == 2) = false := by simp [h2]
    have hc2 : w.cell? ⟨0, m.toNat - 1, none⟩ = some (.int .i64 (Cal.dim y m)) := by rw [show m.toNat - 1 = (m - 1).toNat by omega, ← monthL_at (by omega) (by omega) (.inl h2)]; exact hc
    clear h2 hc
    go_enter Tryz.func101, Tryz.ntmps101
    go_wp2
    go_ret
    exact ⟨ret_i (by rw [L.out]), rfl⟩
end Go.Proofs.YtmngghglcgmkeaaGreatDoor

/- Contracts of the calendar's functions, second part: To, Of, AddMonths. -/
namespace Go.Proofs.YtmngghglcgmkeaaGreatDoor
open Go.RowKit Go.Sort Go.BigFrame

theorem mdV_ok {y m : Int} (h1 : 1900 ≤ y) (h2 : y ≤ 2199) (h3 : 1 ≤ m) (h4 : m ≤ 12) : mdV y m = Cal.dim y m := if_neg (by omega)

set_option maxHeartbeats 1000000 in
theorem civ_To (y m dd d : Int) (w : World) (ht : Tab w) (ho : Cal.Ok y m dd) (hd : Hid (Cal.num y m dd = d + 25567)) : Calls Tryz.prog 103 #[.int .i64 d] w fun e w' => e = .returned (.agg #[.int .i64 y, .int .i64 m, .int .i64 dd]) ∧ Grows w w' := by
  have hb := ho.bd
  have g0 := Cal.guess (n := d + 25567) (by rw [← hd.out]; omega) (by rw [← hd.out]; omega)
  rw [hd.out] at hb
  have g1 : 1900 + (d + 25567) / 366 ≤ y := ho.le_year (by rw [hd.out]; exact g0.1)
  have hin : decide (-25567 ≤ d ∧ d ≤ 84005) = true := by simp; omega
  have b1 := ho.y1
  have b2 := ho.y2
  have b3 := ho.m1
  have b4 := ho.m2
  have sb := Cal.st_bd b1 (by omega)
  have yu : ∀ t : Int, t < y → Cal.st (t + 1) ≤ d + 25567 := fun t h => hd.out ▸ ho.year_up h
  have mu : ∀ t : Int, 1 ≤ t → t < m → Cal.cum y t + Cal.dim y t ≤ d + 25567 - Cal.st y := fun t h1 h2 => hd.out ▸ ho.month_up h1 h2
  have YU := Lib.hid yu
  have MU := Lib.hid mu
  clear yu mu
  go_enter Tryz.func103, Tryz.ntmps103
  go_wp2_with fail
  refine (civ_in d _ (by omega)).mono ?_
  rintro e w1 ⟨rfl, rfl⟩
  rw [hin]
  go_wp2
  go_loop [4] (fun t => ∃ k : Int, 1900 ≤ k ∧ k ≤ y ∧ t = .int .i64 k) (fun t => (9999 - intOf t).toNat)
  case atStart => exact ⟨_, by omega, g1, rfl⟩
  case round =>
    obtain ⟨k, hk1, hk2, rfl⟩ := hrel
    by_cases hlt : k < y
    · have h3 := YU.out k hlt
      go_wp2_with fail
      refine (civ_start (k + 1) _ (by omega) (by omega)).mono ?_
      rintro e w1 ⟨rfl, rfl⟩
      go_wp2
      go_round
      case rel => exact ⟨k + 1, by omega, by omega, rfl⟩
      case measure => simp [intOf]; omega
    · obtain rfl : k = y := by omega
      have h3 : ¬ Cal.st (k + 1) ≤ d + 25567 := by omega
      go_wp2_with fail
      refine (civ_start (k + 1) _ (by omega) (by omega)).mono ?_
      rintro e w1 ⟨rfl, rfl⟩
      go_wp2_with fail
      refine (civ_start k _ (by omega) (by omega)).mono ?_
      rintro e w1 ⟨rfl, rfl⟩
      go_wp2
      go_loop [3, 5] (fun n t => ∃ j : Int, 1 ≤ j ∧ j ≤ m ∧ t = .int .i64 j ∧ n = .int .i64 (d + 25567 - Cal.st k - Cal.cum k j)) (fun _ t => (99 - intOf t).toNat)
      case atStart => exact ⟨1, by omega, b3, rfl, by simp [Cal.cum_1]⟩
      case round =>
        obtain ⟨j, hj1, hj2, rfl, rfl⟩ := hrel
        have cb := Cal.cum_bd (y := k) (m := j) hj1 (by omega)
        have md := Lib.hid (mdV_ok b1 b2 hj1 (show j ≤ 12 by omega))
        have db := Cal.dim_bd k j
        have lb := Cal.lp_01 k
        by_cases hjm : j < m
        · have h4 := MU.out j hj1 hjm
          have CS := Lib.hid (Cal.cum_succ (y := k) (m := j) hj1 (by omega))
          go_wp2_with fail
          refine (civ_MonthDays k j _ (ht.grows (.of_alloc _ _))).mono ?_
          rintro e w1 ⟨rfl, rfl⟩
          rw [md.out]
          go_wp2_with fail
          refine (civ_MonthDays k j _ (ht.grows (.of_alloc _ _))).mono ?_
          rintro e w1 ⟨rfl, rfl⟩
          rw [md.out]
          go_wp2
          go_round
          case rel => exact ⟨j + 1, by omega, by omega, rfl, by rw [CS.out]; go_num⟩
          case measure => simp [intOf]; omega
        · obtain rfl : j = m := by omega
          have DD : Hid (d + 25567 - Cal.st k - Cal.cum k j + 1 = dd) := Lib.hid (by have := hd.out; unfold Cal.num at this; omega)
          have h4 : ¬ Cal.dim k j ≤ d + 25567 - Cal.st k - Cal.cum k j := by have := DD.out; have := ho.d2; omega
          go_wp2_with fail
          refine (civ_MonthDays k j _ (ht.grows (.of_alloc _ _))).mono ?_
          rintro e w1 ⟨rfl, rfl⟩
          rw [md.out]
          go_wp2
          refine bodyPost_ret (v := .agg #[.int .i64 k, .int .i64 j, .int .i64 (d + 25567 - Cal.st k - Cal.cum k j + 1)]) (by simp [results, Tryz.results103, go_sem]) rfl ⟨by rw [DD.out], .of_alloc _ _⟩

theorem civ_To_no (d : Int) (w : World) (hb : -9223372036854775808 ≤ d ∧ d ≤ 9223372036854775807) (h : d < -25567 ∨ 84005 < d) : Calls Tryz.prog 103 #[.int .i64 d] w fun e w' => e = .returned (.agg #[.int .i64 0, .int .i64 0, .int .i64 0]) ∧ Grows w w' := by
  have hin : decide (-25567 ≤ d ∧ d ≤ 84005) = false := by simp; omega
  go_enter Tryz.func103, Tryz.ntmps103
  go_wp2_with fail
  refine (civ_in d _ hb).mono ?_
  rintro e w1 ⟨rfl, rfl⟩
  rw [hin]
  go_wp2
  exact bodyPost_ret (v := .agg #[.int .i64 0, .int .i64 0, .int .i64 0]) (by simp [results, Tryz.results103, go_sem]) rfl ⟨rfl, .of_alloc _ _⟩

def wdV (d : Int) : Int := if -25567 ≤ d ∧ d ≤ 84005 then (d + 25567) % 7 else -1
theorem civ_Weekday (d : Int) (w : World) (hb : -9223372036854775808 ≤ d ∧ d ≤ 9223372036854775807) : Calls Tryz.prog 37 #[.int .i64 d] w fun e w' => e = .returned (.int .i64 (wdV d)) ∧ w = w' := by
  by_cases h : -25567 ≤ d ∧ d ≤ 84005
  · have hin : decide (-25567 ≤ d ∧ d ≤ 84005) = true := by simp; omega
    have h1 := h.1
    have h2 := h.2
    have L := Lib.hid (show wdV d = (d + 25567) % 7 from if_pos h)
    go_enter Tryz.func37, Tryz.ntmps37
    go_wp2_with fail
    refine (civ_in d _ hb).mono ?_
    rintro e w1 ⟨rfl, rfl⟩
    rw [hin]
    go_wp2
    go_ret
    exact ⟨ret_i L.out.symm, rfl⟩
  · have hin : decide (-25567 ≤ d ∧ d ≤ 84005) = false := by simp; omega
    have L := Lib.hid (show wdV d = -1 from if_neg h)
    go_enter Tryz.func37, Tryz.ntmps37
    go_wp2_with fail
    refine (civ_in d _ hb).mono ?_
    rintro e w1 ⟨rfl, rfl⟩
    rw [hin]
    go_wp2
    go_ret
    exact ⟨ret_i L.out.symm, rfl⟩

set_option maxHeartbeats 1000000 in
theorem civ_Of (y m dd : Int) (w : World) (ht : Tab w) (ho : Cal.Ok y m dd) : Calls Tryz.prog 69 #[.agg #[.int .i64 y, .int .i64 m, .int .i64 dd]] w fun e w' => e = .returned (.tuple #[.int .i64 (Cal.num y m dd - 25567), .int .i64 0]) ∧ Grows w w' := by
  have hb := ho.bd
  have b1 := ho.y1
  have b2 := ho.y2
  have b3 := ho.m1
  have b4 := ho.m2
  have b5 := ho.d1
  have b6 := ho.d2
  have db := Cal.dim_bd y m
  have md := Lib.hid (mdV_ok b1 b2 b3 b4)
  have hd1 : decide (dd < 1) = false := by simp; omega
  go_enter Tryz.func69, Tryz.ntmps69
  go_wp2_with fail
  obtain ⟨B, hB⟩ : ∃ B, w.heap.size = B := ⟨_, rfl⟩
  obtain ⟨wa, hwa⟩ : ∃ x, w.alloc (.cells #[.int .i64 y, .int .i64 m, .int .i64 dd] 141 (0, 0)) = x := ⟨_, rfl⟩
  have ga : Grows w wa := hwa ▸ .of_alloc _ _
  have sa : B < wa.heap.size := hwa ▸ hB ▸ size_new _ _
  have a0 : wa.cell? ⟨B, 0, none⟩ = some (.int .i64 y) := hwa ▸ hB ▸ new_cell _ _ _ _ rfl
  have a1 : wa.cell? ⟨B, 1, none⟩ = some (.int .i64 m) := hwa ▸ hB ▸ new_cell _ _ _ _ rfl
  have a2 : wa.cell? ⟨B, 2, none⟩ = some (.int .i64 dd) := hwa ▸ hB ▸ new_cell _ _ _ _ rfl
  have ta := ht.grows ga
  rw [hwa, hB]
  clear hwa hB
  have A0 := Lib.hid a0
  have A1 := Lib.hid a1
  have A2 := Lib.hid a2
  have c0 := cellN sa a0
  have c1 := cellN sa a1
  have c2 := cellN sa a2
  clear a0 a1 a2
  have sq := Cal.st_bd b1 (by omega)
  have cb := Cal.cum_bd (y := y) b3 b4
  have lb := Cal.lp_01 y
  have hd2 : decide (Cal.dim y m < dd) = false := by simp; omega
  refine wp_region_quiet_grown (by kernel_rfl) (by kernel_rfl) ?_
  repeat (go_big_quiet_step (refine grown_same (civ_MonthDays y m _ (ta.grows (.of_grow _ _ _)))))
  refine wpQuiet_nil ?_
  intro wb hw'
  obtain ⟨p, hw''⟩ := hw'
  have gb : Grows wa wb := ⟨p.n, p.os, hw''⟩
  clear hw'' p c0 c1 c2
  have sb : B < wb.heap.size := Nat.lt_of_lt_of_le sa gb.size
  have d0 := gb.cell sa A0.out
  have d1 := gb.cell sa A1.out
  have d2 := gb.cell sa A2.out
  have tb := ta.grows gb
  have hgb := ga.trans gb
  rw [md.out, hd2]
  clear hd1 hd2 gb ga ta sa A0 A1 A2
  have A0 := Lib.hid d0
  have A1 := Lib.hid d1
  have A2 := Lib.hid d2
  have c0 := cellN sb d0
  have c1 := cellN sb d1
  have c2 := cellN sb d2
  clear d0 d1 d2
  go_wp2_with fail
  refine wp_region_quiet_grown (by kernel_rfl) (by kernel_rfl) ?_
  repeat (go_big_quiet_step (refine grown_same (civ_start y _ (by omega) (by omega))))
  refine wpQuiet_nil ?_
  intro wc hw'
  obtain ⟨p, hw''⟩ := hw'
  have gc : Grows wb wc := ⟨p.n, p.os, hw''⟩
  clear hw'' p c0 c1 c2
  have sc : B < wc.heap.size := Nat.lt_of_lt_of_le sb gc.size
  have c0 := gc.cell sb A0.out
  have c1 := gc.cell sb A1.out
  have c2 := gc.cell sb A2.out
  have tc := tb.grows gc
  have hgc := hgb.trans gc
  clear gc hgb tb sb A0 A1 A2
  go_wp2
  go_loop [4, 5] (fun n t => ∃ j : Int, 1 ≤ j ∧ j ≤ m ∧ t = .int .i64 j ∧ n = .int .i64 (Cal.st y + dd - 1 + Cal.cum y j)) (fun _ t => (99 - intOf t).toNat)
  case atStart => exact ⟨1, by omega, b3, rfl, by simp [Cal.cum_1]⟩
  case round =>
    obtain ⟨j, hj1, hj2, rfl, rfl⟩ := hrel
    have cbj := Cal.cum_bd (y := y) (m := j) hj1 (by omega)
    have dbj := Cal.dim_bd y j
    by_cases hjm : j < m
    · have mdj := Lib.hid (mdV_ok b1 b2 hj1 (show j ≤ 12 by omega))
      have CS := Lib.hid (Cal.cum_succ (y := y) (m := j) hj1 (by omega))
      go_wp2_with fail
      refine (civ_MonthDays y j _ tc).mono ?_
      rintro e w1 ⟨rfl, rfl⟩
      rw [mdj.out]
      go_wp2
      go_round
      case rel => exact ⟨j + 1, by omega, by omega, rfl, by rw [CS.out]; go_num⟩
      case measure => simp [intOf]; omega
    · obtain rfl : j = m := by omega
      have NUM : Hid (Cal.num y j dd = Cal.st y + dd - 1 + Cal.cum y j) := Lib.hid (by unfold Cal.num; omega)
      have HO : Hid (Cal.num y j dd = Cal.st y + dd - 1 + Cal.cum y j - 25567 + 25567) := Lib.hid (by have := NUM.out; omega)
      have W1 : IntKind.i64.wrap (Cal.st y + dd - 1 + Cal.cum y j - 25567) = Cal.st y + dd - 1 + Cal.cum y j - 25567 := IntWalk.i64_in _ (by omega)
      have C0 := Lib.hid c0
      have C1 := Lib.hid c1
      have C2 := Lib.hid c2
      go_wp2
      have e0 := cellN sc C0.out
      have e1 := cellN sc C1.out
      have e2 := cellN sc C2.out
      clear c0 c1 c2
      refine wp_region_quiet_grown (by kernel_rfl) (by kernel_rfl) ?_
      repeat (go_big_quiet_step (refine grown_any (civ_To y j dd _ _ (tc.grows (.of_grow _ _ _)) ho HO)))
      refine wpQuiet_nil ?_
      intro wd hw'
      obtain ⟨p, hw''⟩ := hw'
      have gd : Grows wc wd := ⟨p.n, p.os, hw''⟩
      clear hw'' p e0 e1 e2
      go_wp2
      go_ret2
      exact ⟨by rw [NUM.out]; rfl, hgc.trans gd⟩
end Go.Proofs.YtmngghglcgmkeaaGreatDoor
