/- leave.Fold by one contract, whatever comes in. -/
import Derived.Test.YtkbpdbfldijeeaaDoorFolb
import Derived.Test.YtkbpdbfldijeeaaDoorLaw
import Derived.Test.YtkbpdbfldijeeaaDoorAw
import Derived.Test.YtkbpdbfldijeeaaDoorQb
namespace Go.Proofs.YtkbpdbfldijeeaaDoor
open Go.RowKit Go.Sort Go.BigFrame

/-- An account, as a value. -/
def accA (a : Int × Int × Int × Int) : Value := .agg #[.int .i64 a.1, .int .i64 a.2.1, .int .i64 a.2.2.1, .int .i64 a.2.2.2]
def accV (yr ca ex un : Int) (l : List Mv) : Int × Int × Int × Int := if chkV yr ca ex un l = 0 then foldV yr ca ex un l else (0, 0, 0, 0)
theorem accV_ok {yr ca ex un : Int} {l : List Mv} (h : chkV yr ca ex un l = 0) : accV yr ca ex un l = foldV yr ca ex un l := if_pos h
theorem accV_no {yr ca ex un : Int} {l : List Mv} (h : chkV yr ca ex un l ≠ 0) : accV yr ca ex un l = (0, 0, 0, 0) := if_neg h
/-- All that the numbers of a day and of moves can be. -/
structure Ints (un : Int) (l : List Mv) : Prop where
  len : l.length ≤ 9223372036854775807
  un : i64 un
  day : ∀ x ∈ l, i64 x.1
theorem lv_Fold (yr ca ex un : Int) (l : List Mv) (A : Option Addr) (cap : Nat) (w : World) (hi : Ints un l) (ht : Tabs w) (hs : Sl encM 3 w w.heap.size A l) :
    Calls Tryd.prog 10 #[.agg #[.int .i64 yr, .int .i64 ca, .int .i64 ex], .int .i64 un, .slice A l.length cap] w fun e w' =>
      e = .returned (.tuple #[.agg #[.int .i64 (accV yr ca ex un l).1, .int .i64 (accV yr ca ex un l).2.1, .int .i64 (accV yr ca ex un l).2.2.1, .int .i64 (accV yr ca ex un l).2.2.2], .int .i64 (chkV yr ca ex un l)]) ∧ Below w.heap.size w w' := by
  by_cases h : chkV yr ca ex un l = 0
  · rw [accV_ok h, h]
    exact lv_Fold_ok yr ca ex un l A cap w hi.len hi.un hi.day ht.civ hs h
  · rw [accV_no h]
    exact lv_Fold_no yr ca ex un l A cap w hi.len hi.un hi.day ht.civ hs h
/-- What holds of an account's sums. -/
theorem sums_of {yr ca ex un : Int} {l : List Mv} (h : chkV yr ca ex un l = 0) : ∃ n : Nat, n ≤ 10000 ∧ ∀ g t e k, accV yr ca ex un l = (g, t, e, k) →
    g = t + e + k ∧ 0 ≤ e ∧ e ≤ 1000000 * n ∧ 0 ≤ t ∧ t ≤ 1000000 * n ∧ 0 ≤ g ∧ g ≤ 1000000 * n ∧ -(1000000 * n) ≤ k ∧ k ≤ 1000000 * n ∧ (un < Cal.st (yr + 1) - 25567 → e = 0) := by
  have hr := right_of h
  have hi := foldF_inv hr
  refine ⟨(allOps ex yr l).length, ?_, fun g t e k he => ?_⟩
  · unfold allOps
    have hp := hr.plan
    unfold noPlan at hp
    have hf := hr.few
    have := yearsOps_len ex yr (2199 - yr).toNat
    rw [ss_length, List.length_append]
    unfold moveOps
    rw [List.length_map]
    omega
  · rw [accV_ok h] at he
    unfold foldV at he
    simp only [Prod.mk.injEq] at he
    obtain ⟨rfl, rfl, rfl, rfl⟩ := he
    have := hi.bd
    have a1 := hi.sum
    have a2 := hi.e0
    have a3 := hi.t0
    have a4 := hi.t1
    have a5 := hi.g0
    have a6 := hi.g1
    exact ⟨by omega, by omega, by omega, by omega, by omega, by omega, by omega, by omega, by omega, foldF_first⟩
end Go.Proofs.YtkbpdbfldijeeaaDoor
