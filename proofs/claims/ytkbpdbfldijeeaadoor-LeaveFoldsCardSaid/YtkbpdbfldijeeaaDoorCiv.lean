/- Contracts of the calendar's functions (package civil). -/
import Derived.Test.YtkbpdbfldijeeaaDoorProg
import Derived.Test.YtkbpdbfldijeeaaDoorGrow
import Derived.Test.YtkbpdbfldijeeaaDoorCal
import Derived.IntWalk
namespace Go.Proofs.YtkbpdbfldijeeaaDoor
open Go.RowKit Go.Sort Go.BigFrame

/-- The months' lengths, as the variable holds them. -/
def monthL : List Int := [31, 28, 31, 30, 31, 30, 31, 31, 30, 31, 30, 31]
def Tab (w : World) : Prop := 0 < w.heap.size ∧ ∀ i : Nat, i < 12 → w.cell? ⟨0, i, none⟩ = some (.int .i64 (monthL.getD i 0))
theorem Tab.grows {a b : World} (h : Tab a) (k : Grows a b) : Tab b := ⟨Nat.lt_of_lt_of_le h.1 k.size, fun i hi => k.cell h.1 (h.2 i hi)⟩
def mdV (y m : Int) : Int := if y < 1900 ∨ 2199 < y ∨ m < 1 ∨ 12 < m then 0 else Cal.dim y m
theorem monthL_at {y m : Int} (h1 : 1 ≤ m) (h2 : m ≤ 12) (h : m ≠ 2 ∨ Cal.lp y = 0) : monthL.getD (m - 1).toNat 0 = Cal.dim y m := by
  have : m = 1 ∨ m = 2 ∨ m = 3 ∨ m = 4 ∨ m = 5 ∨ m = 6 ∨ m = 7 ∨ m = 8 ∨ m = 9 ∨ m = 10 ∨ m = 11 ∨ m = 12 := by omega
  rcases this with rfl | rfl | rfl | rfl | rfl | rfl | rfl | rfl | rfl | rfl | rfl | rfl <;> simp [monthL, Cal.dim] <;> omega

theorem civ_in (d : Int) (w : World) (hd : -9223372036854775808 ≤ d ∧ d ≤ 9223372036854775807) : Calls Tryd.prog 41 #[.int .i64 d] w fun e w' => e = .returned (.bool (decide (-25567 ≤ d ∧ d ≤ 84005))) ∧ w = w' := by
  go_enter Tryd.func41, Tryd.ntmps41
  by_cases h1 : -25567 ≤ d
  · go_wp2
    go_ret
    exact ⟨ret_b (by simp [h1]; omega), rfl⟩
  · go_wp2
    go_ret
    exact ⟨ret_b (by simp; omega), rfl⟩

theorem lp_yes {y : Int} (h1 : y % 4 = 0) (h2 : y % 100 ≠ 0 ∨ y % 400 = 0) : decide (Cal.lp y = 1) = true := by simp [Cal.lp, h1, h2]
theorem lp_no4 {y : Int} (h1 : y % 4 ≠ 0) : decide (Cal.lp y = 1) = false := by simp [Cal.lp, h1]
theorem lp_no {y : Int} (h2 : y % 100 = 0) (h3 : y % 400 ≠ 0) : decide (Cal.lp y = 1) = false := by simp [Cal.lp, h2, h3]
theorem civ_leap (y : Int) (w : World) (h1 : 0 ≤ y) (h2 : y ≤ 10000) : Calls Tryd.prog 49 #[.int .i64 y] w fun e w' => e = .returned (.bool (decide (Cal.lp y = 1))) ∧ w = w' := by
  by_cases c4 : y % 4 = 0
  · by_cases c100 : y % 100 = 0
    · by_cases c400 : y % 400 = 0
      · have L := Lib.hid (lp_yes c4 (.inr c400))
        have e1 : (y % 4 == 0) = true := by simp [c4]
        have e2 : (y % 100 != 0) = false := by simp [c100]
        have e3 : (y % 400 == 0) = true := by simp [c400]
        clear c4 c100 c400
        go_enter Tryd.func49, Tryd.ntmps49
        go_wp2
        go_ret
        exact ⟨ret_b L.out.symm, rfl⟩
      · have L := Lib.hid (lp_no c100 c400)
        have e1 : (y % 4 == 0) = true := by simp [c4]
        have e2 : (y % 100 != 0) = false := by simp [c100]
        have e3 : (y % 400 == 0) = false := by simp [c400]
        clear c4 c100 c400
        go_enter Tryd.func49, Tryd.ntmps49
        go_wp2
        go_ret
        exact ⟨ret_b L.out.symm, rfl⟩
    · have L := Lib.hid (lp_yes c4 (.inl c100))
      have e1 : (y % 4 == 0) = true := by simp [c4]
      have e2 : (y % 100 != 0) = true := by simp [c100]
      clear c4 c100
      go_enter Tryd.func49, Tryd.ntmps49
      go_wp2
      go_ret
      exact ⟨ret_b L.out.symm, rfl⟩
  · have L := Lib.hid (lp_no4 c4)
    have e1 : (y % 4 == 0) = false := by simp [c4]
    clear c4
    go_enter Tryd.func49, Tryd.ntmps49
    go_wp2
    go_ret
    exact ⟨ret_b L.out.symm, rfl⟩

theorem civ_start (y : Int) (w : World) (h1 : 1 ≤ y) (h2 : y ≤ 10000) : Calls Tryd.prog 48 #[.int .i64 y] w fun e w' => e = .returned (.int .i64 (Cal.st y)) ∧ w = w' := by
  go_enter Tryd.func48, Tryd.ntmps48
  go_wp2
  go_ret
  exact ⟨ret_i (by unfold Cal.st; omega), rfl⟩

theorem civ_MonthDays (y m : Int) (w : World) (ht : Tab w) : Calls Tryd.prog 44 #[.int .i64 y, .int .i64 m] w fun e w' => e = .returned (.int .i64 (mdV y m)) ∧ w = w' := by
  by_cases hy1 : y < 1900
  · have L := Lib.hid (show mdV y m = 0 from if_pos (by omega))
    go_enter Tryd.func44, Tryd.ntmps44
    go_wp2
    go_ret
    exact ⟨ret_i L.out.symm, rfl⟩
  by_cases hy2 : 2199 < y
  · have L := Lib.hid (show mdV y m = 0 from if_pos (by omega))
    go_enter Tryd.func44, Tryd.ntmps44
    go_wp2
    go_ret
    exact ⟨ret_i L.out.symm, rfl⟩
  by_cases hm1 : m < 1
  · have L := Lib.hid (show mdV y m = 0 from if_pos (by omega))
    go_enter Tryd.func44, Tryd.ntmps44
    go_wp2
    go_ret
    exact ⟨ret_i L.out.symm, rfl⟩
  by_cases hm2 : 12 < m
  · have L := Lib.hid (show mdV y m = 0 from if_pos (by omega))
    go_enter Tryd.func44, Tryd.ntmps44
    go_wp2
    go_ret
    exact ⟨ret_i L.out.symm, rfl⟩
  have L := Lib.hid (show mdV y m = Cal.dim y m from if_neg (by omega))
  have hc := ht.2 (m - 1).toNat (by omega)
  by_cases h2 : m = 2
  · subst h2
    by_cases hl : Cal.lp y = 1
    · have D := Lib.hid (show Cal.dim y 2 = 29 by unfold Cal.dim; rw [if_pos rfl, hl]; rfl)
      have hd : decide (Cal.lp y = 1) = true := decide_eq_true hl
      clear hl hc
      go_enter Tryd.func44, Tryd.ntmps44
      go_wp2_with fail
      refine (civ_leap y _ (by omega) (by omega)).mono ?_
      rintro e w1 ⟨rfl, rfl⟩
      rw [hd]
      go_wp2
      go_ret
      exact ⟨ret_i (by rw [L.out, D.out]), rfl⟩
    · have D := Lib.hid (show Cal.dim y 2 = 28 by have := Cal.lp_01 y; unfold Cal.dim; rw [if_pos rfl]; omega)
      have hd : decide (Cal.lp y = 1) = false := decide_eq_false hl
      have hc2 : w.cell? ⟨0, 1, none⟩ = some (.int .i64 28) := hc
      clear hl hc
      go_enter Tryd.func44, Tryd.ntmps44
      go_wp2_with fail
      refine (civ_leap y _ (by omega) (by omega)).mono ?_
      rintro e w1 ⟨rfl, rfl⟩
      rw [hd]
      go_wp2
      go_ret
      exact ⟨ret_i (by rw [L.out, D.out]), rfl⟩
  · have e2 : (m == 2) = false := by simp [h2]
    have hc2 : w.cell? ⟨0, m.toNat - 1, none⟩ = some (.int .i64 (Cal.dim y m)) := by rw [show m.toNat - 1 = (m - 1).toNat by omega, ← monthL_at (by omega) (by omega) (.inl h2)]; exact hc
    clear h2 hc
    go_enter Tryd.func44, Tryd.ntmps44
    go_wp2
    go_ret
    exact ⟨ret_i (by rw [L.out]), rfl⟩
end Go.Proofs.YtkbpdbfldijeeaaDoor
