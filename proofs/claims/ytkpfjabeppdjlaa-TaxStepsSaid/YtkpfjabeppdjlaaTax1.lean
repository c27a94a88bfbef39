/- Contracts of the small functions of layer 24 (tax) and its reference. -/
import Derived.Test.YtkpfjabeppdjlaaRows
import Derived.WalkKit
import Derived.WalkSpells
import Derived.WalkLawsBesides
namespace Go.Proofs.Ytkpfjabeppdjlaa
open Go.RowKit

theorem ret_bool {a b : Bool} (h : a = b) : Ending.returned (.bool a) = .returned (.bool b) := by rw [h]
theorem ret_int {k : IntKind} {a b : Int} (h : a = b) : Ending.returned (.int k a) = .returned (.int k b) := by rw [h]
def fitsB (c : Int) : Bool := decide (-1125899906842624 ≤ c ∧ c ≤ 1125899906842624)
def amountB (c : Int) : Bool := decide (0 ≤ c ∧ c ≤ 1125899906842624)

set_option maxHeartbeats 400000 in
theorem tax_fits (c : Int) (w : World) :
    Calls Try.prog 17 #[.int .i64 c] w fun e w' => e = .returned (.bool (fitsB c)) ∧ w = w' := by
  unfold fitsB
  go_enter Try.func17, Try.ntmps17
  go_wp2
  all_goals
    go_ret
    exact ⟨ret_bool (by simp; omega), rfl⟩

set_option maxHeartbeats 400000 in
theorem ref24_fits (c : Int) (w : World) :
    Calls Try.prog 18 #[.int .i64 c] w fun e w' => e = .returned (.bool (fitsB c)) ∧ w = w' := by
  unfold fitsB
  go_enter Try.func18, Try.ntmps18
  go_wp2
  all_goals
    go_ret
    exact ⟨ret_bool (by simp; omega), rfl⟩

set_option maxHeartbeats 400000 in
theorem tax_amount (c : Int) (w : World) :
    Calls Try.prog 19 #[.int .i64 c] w fun e w' => e = .returned (.bool (amountB c)) ∧ w = w' := by
  unfold amountB
  go_enter Try.func19, Try.ntmps19
  go_wp2
  all_goals
    go_ret
    exact ⟨ret_bool (by simp; omega), rfl⟩

end Go.Proofs.Ytkpfjabeppdjlaa
