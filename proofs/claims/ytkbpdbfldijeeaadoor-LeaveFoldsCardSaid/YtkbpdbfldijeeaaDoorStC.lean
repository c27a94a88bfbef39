/- Contracts of the comparing functions of the stable sort's call. -/
import Derived.Test.YtkbpdbfldijeeaaDoorStK
import Derived.Test.YtkbpdbfldijeeaaDoorProg
import Derived.WalkKit
import Derived.Below
import Derived.Deep.QuietTactic
import Derived.BigQuiet
import Derived.Shelf.SlSortCmp.QuietGrown
import Derived.Lib.Hide
namespace Go.Proofs.YtkbpdbfldijeeaaDoor
open Go.RowKit Go.Sort

theorem ret_int {k : IntKind} {a b : Int} (h : a = b) : Ending.returned (.int k a) = .returned (.int k b) := by rw [h]
theorem ret_bool {a b : Bool} (h : a = b) : Ending.returned (.bool a) = .returned (.bool b) := by rw [h]
def cf (x y : Int) : Int := if x < y then -1 else if y < x then 1 else 0
theorem cf_lt (x y : Int) (h : x < y) : decide (cf x y < 0) = true := by unfold cf; rw [if_pos h]; rfl
theorem cf_ge (x y : Int) (h : ¬ x < y) : decide (cf x y < 0) = false := by unfold cf; rw [if_neg h]; split <;> rfl
theorem cf_neg (x y : Int) : (x < y → cf x y < 0) ∧ (¬ x < y → 0 ≤ cf x y) := ⟨fun h => by unfold cf; rw [if_pos h]; omega, fun h => by unfold cf; rw [if_neg h]; split <;> omega⟩
def lt (x y : El) : Bool := decide (x.1 < y.1)
theorem lt_swk : Swk lt := ⟨fun x y h => by simp [lt] at h ⊢; omega, fun x y z h k => by simp [lt] at h k ⊢; omega⟩

theorem cmp_isNaN (x : Int) (w : World) : Calls Tryd.prog 38 #[.int .i64 x] w fun e w' => e = .returned (.bool false) ∧ w' = w := by
  go_enter Tryd.func38, Tryd.ntmps38
  go_wp2
  go_ret
  exact ⟨rfl, rfl⟩

theorem cmp_Compare (x y : Int) (w : World) : Calls Tryd.prog 24 #[.int .i64 x, .int .i64 y] w fun e w' => e = .returned (.int .i64 (cf x y)) ∧ w' = w := by
  go_enter Tryd.func24, Tryd.ntmps24
  go_wp2_with fail
  refine (cmp_isNaN x _).mono ?_
  rintro e w1 ⟨rfl, rfl⟩
  go_wp2_with fail
  refine (cmp_isNaN y _).mono ?_
  rintro e w1 ⟨rfl, rfl⟩
  by_cases h : x < y
  · go_wp2
    go_ret
    exact ⟨ret_int (by unfold cf; rw [if_pos (by omega)]), rfl⟩
  · by_cases h1 : y < x
    · go_wp2
      go_ret
      exact ⟨ret_int (by unfold cf; rw [if_neg (by omega), if_pos (by omega)]), rfl⟩
    · go_wp2
      go_ret
      exact ⟨ret_int (by unfold cf; rw [if_neg (by omega), if_neg (by omega)]), rfl⟩

theorem cmpD (x y : Int) (f f' : Fn) (a b a' b' : Array Value) (w : World) : Calls Tryd.prog 23 #[.agg #[.int .i64 x, .func f a b], .agg #[.int .i64 y, .func f' a' b']] w fun e w' => e = .returned (.int .i64 (cf x y)) ∧ ∃ q os', w' = grow (w.drewN q) os' := by
  go_enter Tryd.func23, Tryd.ntmps23
  go_wp2_with fail
  refine (cmp_Compare x y _).mono ?_
  rintro e w1 ⟨rfl, rfl⟩
  go_wp2
  go_ret
  refine ⟨rfl, 0, #[.cells #[.int .i64 x, .func f a b] 56, .cells #[.int .i64 y, .func f' a' b'] 56], ?_⟩
  rw [alloc_eq_grow, alloc_eq_grow, grow_grow]
  rfl
end Go.Proofs.YtkbpdbfldijeeaaDoor
