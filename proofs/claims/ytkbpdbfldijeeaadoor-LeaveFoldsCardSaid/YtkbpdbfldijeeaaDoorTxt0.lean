/- Contracts of an account's text, the program's and the reference's. -/
import Derived.Test.YtkbpdbfldijeeaaDoorShelf
import Derived.Test.YtkbpdbfldijeeaaDoorCiv
import Derived.Lib.LaidTab
import Derived.WalkSmall
namespace Go.Proofs.YtkbpdbfldijeeaaDoor
open Go.RowKit Go.Sort Go.BigFrame

/-- Both tables. -/
structure Tabs (w : World) : Prop where
  civ : Tab w
  pow : Lib.TabIs Tryd.prog w "internal/strconv.uint64pow10" .u64 Lib.pow10Tab
  size : 4 ≤ w.heap.size
theorem powAt : Tryd.prog.globalNamed "internal/strconv.uint64pow10" = some 1 := by kernel_rfl
theorem Tabs.below {w w' : World} {B : Nat} (h : Tabs w) (hb : Below B w w') (hB : 4 ≤ B) : Tabs w' :=
  ⟨⟨Nat.lt_of_lt_of_le h.civ.1 hb.size, fun i hi => (hb.cell (p := ⟨0, i, none⟩) (show 0 < B by omega)).trans (h.civ.2 i hi)⟩, var?_below hb powAt (show 1 < B by omega) h.pow, Nat.le_trans h.size hb.size⟩
theorem Tabs.grows {w w' : World} (h : Tabs w) (k : Grows w w') : Tabs w' := h.below k.below h.size
theorem itoaC (n : Int) (w : World) (ht : Tabs w) (h0 : -9223372036854775808 ≤ n) (h1 : n ≤ 9223372036854775807) :
    Calls Tryd.prog 29 #[.int .i64 n] w fun e w' => e = .returned (.string ⟨(Lib.itoa n).toArray⟩) ∧ Grows w w' := Tryd.strconv_Itoa n h0 h1 w ht.pow

/-- Up to k of three numbers behind a first one. -/
def txtK (g t e l : Int) : Nat → List UInt8
  | 0 => Lib.itoa g
  | 1 => Lib.itoa g ++ 32 :: Lib.itoa t
  | 2 => Lib.itoa g ++ 32 :: Lib.itoa t ++ 32 :: Lib.itoa e
  | _ => Lib.itoa g ++ 32 :: Lib.itoa t ++ 32 :: Lib.itoa e ++ 32 :: Lib.itoa l
def txtV (g t e l : Int) : List UInt8 := txtK g t e l 3
def i64 (n : Int) : Prop := -9223372036854775808 ≤ n ∧ n ≤ 9223372036854775807

theorem eq_acc (g t e l : Int) (hz : ¬ (g = 0 ∧ t = 0 ∧ e = 0 ∧ l = 0)) (W : World) :
    (binOp .eql 28 (.agg #[.int .i64 g, .int .i64 t, .int .i64 e, .int .i64 l]) (.agg #[.int .i64 0, .int .i64 0, .int .i64 0, .int .i64 0])).run Tryd.prog W = .ok (.bool false) W := by
  by_cases h0 : g = 0
  · by_cases h1 : t = 0
    · by_cases h2 : e = 0
      · have h3 : l ≠ 0 := fun h => hz ⟨h0, h1, h2, h⟩
        subst h0 h1 h2
        go_simp
      · subst h0 h1
        go_simp
    · subst h0
      go_simp
  · go_simp
end Go.Proofs.YtkbpdbfldijeeaaDoor
