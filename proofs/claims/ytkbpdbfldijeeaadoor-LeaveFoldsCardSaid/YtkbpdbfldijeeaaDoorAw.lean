/- The document's example of leave holds. -/
import Derived.Test.YtkbpdbfldijeeaaDoorFolb
import Derived.Test.YtkbpdbfldijeeaaDoorTxt
import Derived.Test.YtkbpdbfldijeeaaDoorReg
namespace Go.Proofs.YtkbpdbfldijeeaaDoor
open Go.RowKit Go.Sort Go.BigFrame

def awL : List Mv := [(19723, 3000, 0), (19936, 0, 2000), (20120, 0, 300)]
theorem aw_chk : chkV 2024 500 3 20453 awL = 0 := by decide +kernel
theorem aw_fold : foldV 2024 500 3 20453 awL = (3000, 2300, 700, 0) := by
  unfold foldV
  rw [foldF_eq aw_chk]
  decide +kernel
theorem aw_txt : txtV 3000 2300 700 0 = [51, 48, 48, 48, 32, 50, 51, 48, 48, 32, 55, 48, 48, 32, 48] := by decide +kernel

/-- A slice whose cells are just made. -/
theorem Sl.made {α : Type} {enc : α → List Value} {k : Nat} (hk : ∀ x, (enc x).length = k) (w : World) (cs : Array Value) (T : TypeId) (L : List α) (h : cs.toList = rowOf enc L) : Sl enc k (w.alloc (.cells cs T)) (w.alloc (.cells cs T)).heap.size (some ⟨w.heap.size, 0, none⟩) L := fun _ =>
  ⟨w.heap.size, 0, rfl, size_new _ _, fun i x hx j u hu => by
    rw [Nat.zero_add]
    refine new_cell _ _ _ _ ?_
    have := rowOf_get hk L i x hx j u hu
    rw [← h] at this
    simpa using this⟩

set_option maxHeartbeats 1000000 in
theorem lv_awake (w : World) (ht : Tabs w) : Calls Tryd.prog 9 #[] w fun e w' => e = .returned (.bool true) ∧ Below w.heap.size w w' := by
  have g0 : ∀ o, Grows w (w.alloc o) := fun o => .of_alloc _ _
  have HS := Lib.hid (Sl.made encM_len w #[.int .i64 19723, .int .i64 3000, .int .i64 0, .int .i64 19936, .int .i64 0, .int .i64 2000, .int .i64 20120, .int .i64 0, .int .i64 300] 42 awL rfl)
  have HF := Lib.hid (lv_Fold_ok 2024 500 3 20453 awL (some ⟨w.heap.size, 0, none⟩) 3 (w.alloc (.cells #[.int .i64 19723, .int .i64 3000, .int .i64 0, .int .i64 19936, .int .i64 0, .int .i64 2000, .int .i64 20120, .int .i64 0, .int .i64 300] 42)) (by decide) (by decide) (by decide) (ht.civ.grows (g0 _)) HS.out aw_chk)
  rw [aw_fold] at HF
  go_enter Tryd.func9, Tryd.ntmps9
  go_wp2_with fail
  refine (HF.out).mono ?_
  rintro e w1 ⟨rfl, hb⟩
  have hz := (g0 (.cells #[.int .i64 19723, .int .i64 3000, .int .i64 0, .int .i64 19936, .int .i64 0, .int .i64 2000, .int .i64 20120, .int .i64 0, .int .i64 300] 42)).size
  have hb1 : Below w.heap.size w w1 := belowTrans (g0 _).below (belowMono hb hz)
  have t1 := ht.below hb1 ht.size
  clear hb
  go_wp2_with fail
  refine (ac_Text 3000 2300 700 0 _ (t1.grows (.of_alloc _ _)) ⟨by decide, by decide⟩ ⟨by decide, by decide⟩ ⟨by decide, by decide⟩ ⟨by decide, by decide⟩).mono ?_
  rintro e w2 ⟨rfl, hg⟩
  rw [aw_txt]
  have hb2 := Lib.hid (belowTrans hb1 (belowMono ((Grows.of_alloc _ _).trans hg).below hb1.size))
  go_wp2
  go_ret
  exact ⟨rfl, hb2.out⟩
end Go.Proofs.YtkbpdbfldijeeaaDoor
