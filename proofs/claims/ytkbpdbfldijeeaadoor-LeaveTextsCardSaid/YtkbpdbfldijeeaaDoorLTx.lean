/- The walk of LeaveTexts. -/
import Derived.Test.YtkbpdbfldijeeaaDoorAw
import Derived.Test.YtkbpdbfldijeeaaDoorNum
import Derived.Test.YtkbpdbfldijeeaaDoorQb
namespace Go.Proofs.YtkbpdbfldijeeaaDoor
open Go.RowKit Go.Sort Go.BigFrame

theorem lw_far (n : Int) (w : World) : Calls Tryd.prog 15 #[.int .i64 n] w fun e w' => e = .returned (.bool (decide (n < -4611686018427387904))) ∧ w = w' := by
  go_enter Tryd.func15, Tryd.ntmps15
  go_wp2
  go_ret
  exact ⟨rfl, rfl⟩

def farB (n : Int) : Bool := decide (n < -4611686018427387904)
set_option maxHeartbeats 2000000 in
theorem lw_Texts (g t e l : Int) (w : World) (ht : Tabs w) (b0 : i64 g) (b1 : i64 t) (b2 : i64 e) (b3 : i64 l) :
    Calls Tryd.prog 7 #[.agg #[.int .i64 g, .int .i64 t, .int .i64 e, .int .i64 l]] w fun e' w' => e' = .returned (.bool true) ∧ Below w.heap.size w w' := by
  have AW := Lib.hid (fun W (hT : Tabs W) => lv_awake W hT)
  have FG := Lib.hid (fun W => lw_far g W)
  have FT := Lib.hid (fun W => lw_far t W)
  have FE := Lib.hid (fun W => lw_far e W)
  have FL := Lib.hid (fun W => lw_far l W)
  have t1 := ht.grows (.of_alloc w (.cells #[.int .i64 g, .int .i64 t, .int .i64 e, .int .i64 l] 28))
  have fin : ∀ w2, Below (w.alloc (.cells #[.int .i64 g, .int .i64 t, .int .i64 e, .int .i64 l] 28)).heap.size (w.alloc (.cells #[.int .i64 g, .int .i64 t, .int .i64 e, .int .i64 l] 28)) w2 → Below w.heap.size w w2 := fun w2 h => bwTrans (Grows.of_alloc w _).below h (Grows.of_alloc w _).size
  have FIN := Lib.hid fin
  clear fin
  by_cases h0 : g < -4611686018427387904
  · have d0 : decide (g < -4611686018427387904) = true := decide_eq_true h0
    go_enter Tryd.func7, Tryd.ntmps7
    go_wp2_with fail
    refine (FG.out _).mono ?_
    rintro e' w1 ⟨rfl, rfl⟩
    rw [d0]
    go_wp2_with fail
    refine (AW.out _ t1).mono ?_
    rintro e' w2 ⟨rfl, hb⟩
    go_wp2
    go_ret
    exact ⟨rfl, FIN.out _ hb⟩
  have d0 : decide (g < -4611686018427387904) = false := decide_eq_false h0
  by_cases h1 : t < -4611686018427387904
  · have d1 : decide (t < -4611686018427387904) = true := decide_eq_true h1
    go_enter Tryd.func7, Tryd.ntmps7
    go_wp2_with fail
    refine (FG.out _).mono ?_
    rintro e' w1 ⟨rfl, rfl⟩
    rw [d0]
    go_wp2_with fail
    refine (FT.out _).mono ?_
    rintro e' w1 ⟨rfl, rfl⟩
    rw [d1]
    go_wp2_with fail
    refine (AW.out _ t1).mono ?_
    rintro e' w2 ⟨rfl, hb⟩
    go_wp2
    go_ret
    exact ⟨rfl, FIN.out _ hb⟩
  have d1 : decide (t < -4611686018427387904) = false := decide_eq_false h1
  by_cases h2 : e < -4611686018427387904
  · have d2 : decide (e < -4611686018427387904) = true := decide_eq_true h2
    go_enter Tryd.func7, Tryd.ntmps7
    go_wp2_with fail
    refine (FG.out _).mono ?_
    rintro e' w1 ⟨rfl, rfl⟩
    rw [d0]
    go_wp2_with fail
    refine (FT.out _).mono ?_
    rintro e' w1 ⟨rfl, rfl⟩
    rw [d1]
    go_wp2_with fail
    refine (FE.out _).mono ?_
    rintro e' w1 ⟨rfl, rfl⟩
    rw [d2]
    go_wp2_with fail
    refine (AW.out _ t1).mono ?_
    rintro e' w2 ⟨rfl, hb⟩
    go_wp2
    go_ret
    exact ⟨rfl, FIN.out _ hb⟩
  have d2 : decide (e < -4611686018427387904) = false := decide_eq_false h2
  by_cases h3 : l < -4611686018427387904
  · have d3 : decide (l < -4611686018427387904) = true := decide_eq_true h3
    go_enter Tryd.func7, Tryd.ntmps7
    go_wp2_with fail
    refine (FG.out _).mono ?_
    rintro e' w1 ⟨rfl, rfl⟩
    rw [d0]
    go_wp2_with fail
    refine (FT.out _).mono ?_
    rintro e' w1 ⟨rfl, rfl⟩
    rw [d1]
    go_wp2_with fail
    refine (FE.out _).mono ?_
    rintro e' w1 ⟨rfl, rfl⟩
    rw [d2]
    go_wp2_with fail
    refine (FL.out _).mono ?_
    rintro e' w1 ⟨rfl, rfl⟩
    rw [d3]
    go_wp2_with fail
    refine (AW.out _ t1).mono ?_
    rintro e' w2 ⟨rfl, hb⟩
    go_wp2
    go_ret
    exact ⟨rfl, FIN.out _ hb⟩
  have d3 : decide (l < -4611686018427387904) = false := decide_eq_false h3
  have TX := Lib.hid (fun W (hT : Tabs W) => ac_Text g t e l W hT b0 b1 b2 b3)
  have RX := Lib.hid (fun W => rf_Text g t e l W ⟨by omega, b0.2⟩ ⟨by omega, b1.2⟩ ⟨by omega, b2.2⟩ ⟨by omega, b3.2⟩)
  go_enter Tryd.func7, Tryd.ntmps7
  go_wp2_with fail
  refine (FG.out _).mono ?_
  rintro e' w1 ⟨rfl, rfl⟩
  rw [d0]
  go_wp2_with fail
  refine (FT.out _).mono ?_
  rintro e' w1 ⟨rfl, rfl⟩
  rw [d1]
  go_wp2_with fail
  refine (FE.out _).mono ?_
  rintro e' w1 ⟨rfl, rfl⟩
  rw [d2]
  go_wp2_with fail
  refine (FL.out _).mono ?_
  rintro e' w1 ⟨rfl, rfl⟩
  rw [d3]
  clear d0 d1 d2 d3 h0 h1 h2 h3 FG FT FE FL
  go_wp2_with fail
  obtain ⟨B, hB⟩ : ∃ B, w.heap.size = B := ⟨_, rfl⟩
  obtain ⟨wa, hwa⟩ : ∃ x, w.alloc (.cells #[.int .i64 g, .int .i64 t, .int .i64 e, .int .i64 l] 28) = x := ⟨_, rfl⟩
  have sa : B < wa.heap.size := hwa ▸ hB ▸ size_new _ _
  have c0 := cellB sa (show wa.cell? ⟨B, 0, none⟩ = some (.int .i64 g) from hwa ▸ hB ▸ new_cell _ _ _ _ rfl)
  have c1 := cellB sa (show wa.cell? ⟨B, 1, none⟩ = some (.int .i64 t) from hwa ▸ hB ▸ new_cell _ _ _ _ rfl)
  have c2 := cellB sa (show wa.cell? ⟨B, 2, none⟩ = some (.int .i64 e) from hwa ▸ hB ▸ new_cell _ _ _ _ rfl)
  have c3 := cellB sa (show wa.cell? ⟨B, 3, none⟩ = some (.int .i64 l) from hwa ▸ hB ▸ new_cell _ _ _ _ rfl)
  rw [hwa] at t1 FIN
  rw [hwa, hB]
  clear hwa hB
  generalize txtV g t e l = tx at *
  refine wp_region_quiet_below (by kernel_rfl) (by kernel_rfl) ?_
  repeat (go_big_quiet_step ((first | (with_reducible refine below_grows (TX.out _ (t1.below (BW.le _) t1.size))) | (with_reducible refine below_grows (RX.out _)) | (with_reducible refine below_any (AW.out _ (t1.below (BW.le _) t1.size))))))
  refine wpQuiet_nil ?_
  intro wb hw'
  obtain ⟨p, hw''⟩ := hw'
  have gb : Below wa.heap.size wa wb := by rw [hw'']; exact p.le
  clear hw'' p c0 c1 c2 c3
  go_wp2
  go_ret
  exact ⟨rfl, FIN.out _ gb⟩
end Go.Proofs.YtkbpdbfldijeeaaDoor
