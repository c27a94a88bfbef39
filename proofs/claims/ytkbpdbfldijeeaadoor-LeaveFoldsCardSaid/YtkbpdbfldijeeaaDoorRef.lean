/- The account month by month, in plain lists: it is the one of the deeds in order. -/
import Derived.Test.YtkbpdbfldijeeaaDoorFd
namespace Go.Proofs.YtkbpdbfldijeeaaDoor

/-- Year and month of month i, from a plan's year on. -/
def yrM (yr : Int) (i : Nat) : Int := yr + ((i / 12 : Nat) : Int)
def moM (i : Nat) : Int := ((i % 12 : Nat) : Int) + 1
/-- Month i's first day. -/
def dM (yr : Int) (i : Nat) : Int := Cal.st (yrM yr i) + Cal.cum (yrM yr i) (moM i) - 25567
theorem moM_bd (i : Nat) : 1 ≤ moM i ∧ moM i ≤ 12 := by unfold moM; omega
theorem dM_succ (yr : Int) (i : Nat) : dM yr (i + 1) = dM yr i + Cal.dim (yrM yr i) (moM i) := by
  unfold dM
  by_cases h : i % 12 = 11
  · have e1 : yrM yr (i + 1) = yrM yr i + 1 := by unfold yrM; omega
    have e2 : moM (i + 1) = 1 := by unfold moM; omega
    have e3 : moM i = 12 := by unfold moM; omega
    rw [e1, e2, e3, Cal.st_succ, Cal.cum_1]
    have := Cal.cum_succ (y := yrM yr i) (m := 12) (by omega) (by omega)
    have e4 : Cal.cum (yrM yr i) (12 + 1) = 365 + Cal.lp (yrM yr i) := Cal.cum_13 _
    omega
  · have e1 : yrM yr (i + 1) = yrM yr i := by unfold yrM; omega
    have e2 : moM (i + 1) = moM i + 1 := by unfold moM; omega
    rw [e1, e2, Cal.cum_succ (moM_bd i).1 (moM_bd i).2]
    omega
theorem dM_lt (yr : Int) (i : Nat) : dM yr i < dM yr (i + 1) := by rw [dM_succ]; have := Cal.dim_bd (yrM yr i) (moM i); omega
theorem dM_mono (yr : Int) (i k : Nat) : dM yr i ≤ dM yr (i + k) := by
  induction k with
  | zero => exact Int.le_refl _
  | succ k ih => have := dM_lt yr (i + k); rw [← Nat.add_assoc]; omega

/-- What month i's first day brings. -/
def evs (yr ex : Int) (i : Nat) : List (Int × Op) :=
  if i < 12 then [] else (if moM i = 1 then [(dM yr i, .turn)] else []) ++ (if 0 < ex ∧ ex < 12 ∧ moM i = ex + 1 then [(dM yr i, .lose)] else [])
theorem evs_day {yr ex : Int} {i : Nat} : ∀ x ∈ evs yr ex i, x.1 = dM yr i := by
  intro x hx
  unfold evs at hx
  split at hx
  · cases hx
  · rcases List.mem_append.1 hx with h | h <;> (split at h <;> first | (rw [List.mem_singleton] at h; rw [h]) | cases h)
def Tm (yr ex : Int) (i k : Nat) : List (Int × Op) := (List.range k).flatMap fun j => evs yr ex (i + j)
theorem Tm_succ (yr ex : Int) (i k : Nat) : Tm yr ex i (k + 1) = evs yr ex i ++ Tm yr ex (i + 1) k := by
  unfold Tm
  rw [List.range_succ_eq_map, List.flatMap_cons, List.flatMap_map]
  congr 1
  congr 1
  funext j
  congr 1
  omega
theorem Tm_ge {yr ex : Int} : ∀ (k i : Nat), ∀ x ∈ Tm yr ex i k, dM yr i ≤ x.1 := by
  intro k i x hx
  unfold Tm at hx
  obtain ⟨j, _, hj⟩ := List.mem_flatMap.1 hx
  rw [evs_day x hj]
  exact dM_mono yr i j
theorem Tm_srt (yr ex : Int) : ∀ (k i : Nat), Srt ltO (Tm yr ex i k)
  | 0, i => List.Pairwise.nil
  | k + 1, i => by
    rw [Tm_succ]
    refine List.pairwise_append.2 ⟨?_, Tm_srt yr ex k (i + 1), fun x hx y hy => ?_⟩
    · refine List.Pairwise.imp_of_mem (R := fun _ _ => True) (fun {a b} ha hb _ => ?_) ?_
      · have h1 := evs_day a ha; have h2 := evs_day b hb
        simp [ltO]; omega
      · exact List.pairwise_of_forall (fun _ _ => trivial)
    · have h1 := evs_day x hx
      have h2 := Tm_ge _ _ y hy
      have h3 := dM_lt yr i
      simp [ltO]; omega
theorem Tm_add (yr ex : Int) (i a b : Nat) : Tm yr ex i (a + b) = Tm yr ex i a ++ Tm yr ex (i + a) b := by
  unfold Tm
  rw [List.range_add, List.flatMap_append, List.flatMap_map]
  congr 1
  congr 1
  funext j
  congr 1
  omega
theorem Tm_first (yr ex : Int) : Tm yr ex 0 12 = [] := by
  have h : List.range 12 = [0, 1, 2, 3, 4, 5, 6, 7, 8, 9, 10, 11] := rfl
  simp [Tm, h, evs]
theorem evs_at (yr ex : Int) (q j : Nat) (hj : j < 12) : evs yr ex (12 * (q + 1) + j) =
    (if j = 0 then [(Cal.st (yr + 1 + (q : Int)) - 25567, Op.turn)] else []) ++ (if 0 < ex ∧ ex < 12 ∧ (j : Int) = ex then [(Cal.st (yr + 1 + (q : Int)) + Cal.cum (yr + 1 + (q : Int)) (ex + 1) - 25567, Op.lose)] else []) := by
  have e1 : yrM yr (12 * (q + 1) + j) = yr + 1 + (q : Int) := by unfold yrM; omega
  have e2 : moM (12 * (q + 1) + j) = (j : Int) + 1 := by unfold moM; omega
  unfold evs dM
  rw [if_neg (by omega), e1, e2]
  congr 1
  · by_cases h : j = 0
    · subst h; rw [if_pos (by simp), if_pos rfl]; simp [Cal.cum_1]
    · rw [if_neg (by omega), if_neg h]
  · by_cases h : 0 < ex ∧ ex < 12 ∧ (j : Int) = ex
    · rw [if_pos (by omega), if_pos h, h.2.2]
    · rw [if_neg (by omega), if_neg h]
theorem Tm_year (yr ex : Int) (q : Nat) : Tm yr ex (12 * (q + 1)) 12 = yearOps ex (yr + 1 + (q : Int)) := by
  have h : List.range 12 = [0, 1, 2, 3, 4, 5, 6, 7, 8, 9, 10, 11] := rfl
  unfold Tm yearOps
  rw [h]
  simp only [List.flatMap_cons, List.flatMap_nil, evs_at yr ex q _ (show 0 < 12 by omega), evs_at yr ex q 1 (by omega), evs_at yr ex q 2 (by omega), evs_at yr ex q 3 (by omega), evs_at yr ex q 4 (by omega), evs_at yr ex q 5 (by omega), evs_at yr ex q 6 (by omega), evs_at yr ex q 7 (by omega), evs_at yr ex q 8 (by omega), evs_at yr ex q 9 (by omega), evs_at yr ex q 10 (by omega), evs_at yr ex q 11 (by omega)]
  by_cases hx : 0 < ex ∧ ex < 12
  · have : ex = 1 ∨ ex = 2 ∨ ex = 3 ∨ ex = 4 ∨ ex = 5 ∨ ex = 6 ∨ ex = 7 ∨ ex = 8 ∨ ex = 9 ∨ ex = 10 ∨ ex = 11 := by omega
    rcases this with rfl | rfl | rfl | rfl | rfl | rfl | rfl | rfl | rfl | rfl | rfl <;> simp
  · have h2 : ∀ j : Int, ¬ (0 < ex ∧ ex < 12 ∧ j = ex) := fun j h => hx ⟨h.1, h.2.1⟩
    simp [hx, h2]
theorem Tm_years (yr ex : Int) (q : Nat) : Tm yr ex 12 (12 * q) = yearsOps ex yr q := by
  induction q with
  | zero => simp [Tm, yearsOps]
  | succ q ih =>
    have e : yearsOps ex yr (q + 1) = yearsOps ex yr q ++ yearOps ex (yr + 1 + (q : Int)) := by unfold yearsOps; rw [List.range_succ, List.flatMap_append]; simp
    rw [Nat.mul_add, Tm_add, ih, e, show 12 + 12 * q = 12 * (q + 1) by omega, Nat.mul_one, Tm_year]
theorem Tm_all (yr ex : Int) (q : Nat) : Tm yr ex 0 (12 * (q + 1)) = yearsOps ex yr q := by
  rw [Nat.mul_add, Nat.mul_one, Nat.add_comm, Tm_add, Tm_first, List.nil_append, Nat.zero_add, Tm_years]
end Go.Proofs.YtkbpdbfldijeeaaDoor
