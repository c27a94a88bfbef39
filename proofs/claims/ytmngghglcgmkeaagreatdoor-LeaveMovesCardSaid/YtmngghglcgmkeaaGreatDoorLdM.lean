/- What LeaveMoves asks of the world: the tables, too. -/
import Derived.Test.YtmngghglcgmkeaaGreatDoorLdE
import Derived.Test.YtmngghglcgmkeaaGreatDoorLdG
import Derived.Test.YtmngghglcgmkeaaGreatDoorLvc
namespace Go.Proofs.YtmngghglcgmkeaaGreatDoor
open Go.ChangeShapes Go.WideShapes Go.ChangeAt Go.RowKit Go.Deep

theorem powDataM {H : Type} : (Rows.laid_internal_strconv_uint64pow10 : DataW H) = Lib.tabData .u64 Lib.pow10Tab := rfl
theorem gFirstM : Tryz.prog.globalNamed "math/bits.deBruijn32tab" = some 5 := by kernel_rfl
theorem var_ltM {P : Program} {W : World} {n : String} {g : Nat} {cs : Array Value} (hg : P.globalNamed n = some g) (h : W.var? P n = some cs) : g < W.heap.size := by
  unfold World.var? at h
  simp only [hg, Option.bind_some] at h
  rcases Nat.lt_or_ge g W.heap.size with hlt | hge
  · exact hlt
  · rw [Array.getElem?_eq_none hge] at h; simp at h
theorem tabs_lv {W : World} (h : laidMetH Tryz.prog laid16 W) (hs : W.ShapedOpen Tryz.prog) : (Tb W ∧ Tab W) ∧ Lv.Tabs W := by
  have ht := tb_of h hs
  refine ⟨ht, ?_⟩
  rw [MakeChecks.laidMetH_plain _ _ _ (by kernel_rfl)] at h
  have h1 : laidMet Tryz.prog (("math/bits.deBruijn32tab", Rows.laid_math_bits_deBruijn32tab) :: ("math/bits.deBruijn64tab", Rows.laid_math_bits_deBruijn64tab) :: ("internal/strconv.uint64pow10", Lib.tabData .u64 Lib.pow10Tab) :: ("unicode/utf8.acceptRanges", Rows.laid_unicode_utf8_acceptRanges) :: ("wagebook/civil.lengths", Rows.laid_wagebook_civil_lengths) :: ("strconv.ErrRange", Rows.laid_strconv_ErrRange) :: ("strconv.ErrSyntax", Rows.laid_strconv_ErrSyntax) :: ("unicode/utf8.first", Rows.laid_unicode_utf8_first) :: []) W := h
  have hp := Lib.tabIs_of_head (g := 1) (t := 220) (e := 170) (n := 20) (by kernel_rfl) (by kernel_rfl) Tryz.underlying220 Tryz.underlying170 (by kernel_rfl) (by kernel_rfl) h1.tail.tail
  obtain ⟨ps, ⟨g', t', cs, fuel, p, q, hg', ht', hvar, hd, _, _⟩, _⟩ := h1
  have hz := var_ltM gFirstM hvar
  exact ⟨ht.2, hp, by omega⟩
end Go.Proofs.YtmngghglcgmkeaaGreatDoor
