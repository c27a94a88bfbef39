/- From the row's listed variables to what the walks ask of both tables. -/
import Derived.Test.YtkbpdbfldijeeaaDoorRows
import Derived.Test.YtkbpdbfldijeeaaDoorTxt0
import Derived.Lib.LaidTab
import Derived.LaidMore
import Derived.ProofKit
import Derived.Stop.Joined
import Derived.Stop.LaidErr
namespace Go.Proofs.YtkbpdbfldijeeaaDoor
open Go.ChangeShapes Go.WideShapes Go.ChangeAt Go.RowKit

abbrev laid4 : List (String × DataW Unit) := Rows.leaveTextsRow.laid
theorem powData {H : Type} : (Rows.laid_internal_strconv_uint64pow10 : DataW H) = Lib.tabData .u64 Lib.pow10Tab := rfl
theorem monthData {H : Type} : (Rows.laid_wagebook_civil_lengths : DataW H) = Lib.tabData .i64 monthL := rfl
theorem gMonth : Tryd.prog.globalNamed "wagebook/civil.lengths" = some 0 := by kernel_rfl
theorem gLast : Tryd.prog.globalNamed "math/bits.deBruijn64tab" = some 3 := by kernel_rfl

theorem var_lt {P : Program} {W : World} {n : String} {g : Nat} {cs : Array Value} (hg : P.globalNamed n = some g) (h : W.var? P n = some cs) : g < W.heap.size := by
  unfold World.var? at h
  simp only [hg, Option.bind_some] at h
  rcases Nat.lt_or_ge g W.heap.size with hlt | hge
  · exact hlt
  · rw [Array.getElem?_eq_none hge] at h; simp at h

theorem tabs_of_laid {W : World} (h : laidMetH Tryd.prog laid4 W) : Tabs W := by
  rw [MakeChecks.laidMetH_plain _ _ _ (by kernel_rfl)] at h
  have h1 : laidMet Tryd.prog (("math/bits.deBruijn64tab", Rows.laid_math_bits_deBruijn64tab) :: ("internal/strconv.uint64pow10", Lib.tabData .u64 Lib.pow10Tab) :: ("wagebook/civil.lengths", Lib.tabData .i64 monthL) :: []) W := h.tail
  have hp := Lib.tabIs_of_head (g := 1) (t := 90) (e := 84) (n := 20) (by kernel_rfl) (by kernel_rfl) Tryd.underlying90 Tryd.underlying84 (by kernel_rfl) (by kernel_rfl) h1.tail
  have hm := Lib.tabIs_of_head (g := 0) (t := 81) (e := 3) (n := 12) (by kernel_rfl) (by kernel_rfl) Tryd.underlying81 Tryd.underlying3 (by kernel_rfl) (by kernel_rfl) h1.tail.tail
  obtain ⟨ps, ⟨g', t', cs, fuel, p, q, hg', ht', hvar, hd, _, _⟩, _⟩ := h1
  have hs := var_lt gLast hvar
  exact ⟨⟨by omega, fun i hi => hm.cell gMonth i (by simpa [monthL] using hi)⟩, hp, hs⟩
end Go.Proofs.YtkbpdbfldijeeaaDoor
