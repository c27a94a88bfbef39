/- Contracts of the reference's calendar (wagebookref04). -/
import Derived.Test.YtkbpdbfldijeeaaDoorCiw
namespace Go.Proofs.YtkbpdbfldijeeaaDoor
open Go.RowKit Go.Sort Go.BigFrame

theorem r4_Leap (y : Int) (w : World) (h1 : 0 ≤ y) (h2 : y ≤ 10000) : Calls Tryd.prog 39 #[.int .i64 y] w fun e w' => e = .returned (.bool (decide (Cal.lp y = 1))) ∧ w = w' := by
  by_cases c4 : y % 4 = 0
  · by_cases c100 : y % 100 = 0
    · by_cases c400 : y % 400 = 0
      · have L := Lib.hid (lp_yes c4 (.inr c400))
        have e1 : (y % 4 == 0) = true := by simp [c4]
        have e2 : (y % 100 != 0) = false := by simp [c100]
        have e3 : (y % 400 == 0) = true := by simp [c400]
        clear c4 c100 c400
        go_enter Tryd.func39, Tryd.ntmps39
        go_wp2
        go_ret
        exact ⟨ret_b L.out.symm, rfl⟩
      · have L := Lib.hid (lp_no c100 c400)
        have e1 : (y % 4 == 0) = true := by simp [c4]
        have e2 : (y % 100 != 0) = false := by simp [c100]
        have e3 : (y % 400 == 0) = false := by simp [c400]
        clear c4 c100 c400
        go_enter Tryd.func39, Tryd.ntmps39
        go_wp2
        go_ret
        exact ⟨ret_b L.out.symm, rfl⟩
    · have L := Lib.hid (lp_yes c4 (.inl c100))
      have e1 : (y % 4 == 0) = true := by simp [c4]
      have e2 : (y % 100 != 0) = true := by simp [c100]
      clear c4 c100
      go_enter Tryd.func39, Tryd.ntmps39
      go_wp2
      go_ret
      exact ⟨ret_b L.out.symm, rfl⟩
  · have L := Lib.hid (lp_no4 c4)
    have e1 : (y % 4 == 0) = false := by simp [c4]
    have e3 : (y % 400 == 0) = false := by simp; omega
    clear c4
    go_enter Tryd.func39, Tryd.ntmps39
    go_wp2
    go_ret
    exact ⟨ret_b L.out.symm, rfl⟩

theorem r4_In (d : Int) (w : World) (hd : -9223372036854775808 ≤ d ∧ d ≤ 9223372036854775807) : Calls Tryd.prog 25 #[.int .i64 d] w fun e w' => e = .returned (.bool (decide (-25567 ≤ d ∧ d ≤ 84005))) ∧ w = w' := by
  go_enter Tryd.func25, Tryd.ntmps25
  by_cases h1 : -25567 ≤ d
  · go_wp2
    go_ret
    exact ⟨ret_b (by simp [h1]), rfl⟩
  · go_wp2
    go_ret
    exact ⟨ret_b (by simp; omega), rfl⟩
theorem r4_year (y : Int) (w : World) (h1 : 0 ≤ y) (h2 : y ≤ 10000) : Calls Tryd.prog 28 #[.int .i64 y] w fun e w' => e = .returned (.int .i64 (365 + Cal.lp y)) ∧ w = w' := by
  by_cases hl : Cal.lp y = 1
  · have hd : decide (Cal.lp y = 1) = true := decide_eq_true hl
    have HL := Lib.hid hl
    clear hl
    go_enter Tryd.func28, Tryd.ntmps28
    go_wp2_with fail
    refine (r4_Leap y _ h1 h2).mono ?_
    rintro e w1 ⟨rfl, rfl⟩
    rw [hd]
    go_wp2
    go_ret
    exact ⟨ret_i (by rw [HL.out]; rfl), rfl⟩
  · have hd : decide (Cal.lp y = 1) = false := decide_eq_false hl
    have HL : Hid (Cal.lp y = 0) := Lib.hid (by have := Cal.lp_01 y; omega)
    clear hl
    go_enter Tryd.func28, Tryd.ntmps28
    go_wp2_with fail
    refine (r4_Leap y _ h1 h2).mono ?_
    rintro e w1 ⟨rfl, rfl⟩
    rw [hd]
    go_wp2
    go_ret
    exact ⟨ret_i (by rw [HL.out]; rfl), rfl⟩

set_option maxHeartbeats 1000000 in
/-- A month of the calendar. -/
theorem r4_Month (y m : Int) (w : World) (h1 : 1900 ≤ y) (h2 : y ≤ 2199) (h3 : 1 ≤ m) (h4 : m ≤ 12) : Calls Tryd.prog 27 #[.int .i64 y, .int .i64 m] w fun e w' => e = .returned (.int .i64 (Cal.dim y m)) ∧ Grows w w' := by
  by_cases hm : m = 2
  · subst hm
    by_cases hl : Cal.lp y = 1
    · have D := Lib.hid (show Cal.dim y 2 = 29 by unfold Cal.dim; rw [if_pos rfl, hl]; rfl)
      have hd : decide (Cal.lp y = 1) = true := decide_eq_true hl
      clear hl
      go_enter Tryd.func27, Tryd.ntmps27
      go_wp2_with fail
      refine (r4_Leap y _ (by omega) (by omega)).mono ?_
      rintro e w1 ⟨rfl, rfl⟩
      rw [hd]
      go_wp2
      go_ret
      exact ⟨ret_i (by rw [D.out]), .refl _⟩
    · have D := Lib.hid (show Cal.dim y 2 = 28 by have := Cal.lp_01 y; unfold Cal.dim; rw [if_pos rfl]; omega)
      have hd : decide (Cal.lp y = 1) = false := decide_eq_false hl
      clear hl
      go_enter Tryd.func27, Tryd.ntmps27
      go_wp2_with fail
      refine (r4_Leap y _ (by omega) (by omega)).mono ?_
      rintro e w1 ⟨rfl, rfl⟩
      rw [hd]
      go_wp2
      go_ret
      exact ⟨ret_i (by rw [D.out]), .of_alloc _ _⟩
  · have e2 : (m == 2) = false := by simp [hm]
    have hc : (w.alloc (.cells #[.int .i64 31, .int .i64 28, .int .i64 31, .int .i64 30, .int .i64 31, .int .i64 30, .int .i64 31, .int .i64 31, .int .i64 30, .int .i64 31, .int .i64 30, .int .i64 31] 3)).cell? ⟨w.heap.size, m.toNat - 1, none⟩ = some (.int .i64 (Cal.dim y m)) := by
      refine new_cell _ _ _ _ ?_
      rw [← monthL_at h3 h4 (.inl hm)]
      have : m = 1 ∨ m = 2 ∨ m = 3 ∨ m = 4 ∨ m = 5 ∨ m = 6 ∨ m = 7 ∨ m = 8 ∨ m = 9 ∨ m = 10 ∨ m = 11 ∨ m = 12 := by omega
      rcases this with rfl | rfl | rfl | rfl | rfl | rfl | rfl | rfl | rfl | rfl | rfl | rfl <;> rfl
    clear hm
    go_enter Tryd.func27, Tryd.ntmps27
    go_wp2
    go_ret
    exact ⟨rfl, .of_alloc _ _⟩

set_option maxHeartbeats 1000000 in
theorem r4_To (y m dd d : Int) (w : World) (ho : Cal.Ok y m dd) (hd : Hid (Cal.num y m dd = d + 25567)) : Calls Tryd.prog 14 #[.int .i64 d] w fun e w' => e = .returned (.agg #[.int .i64 y, .int .i64 m, .int .i64 dd]) ∧ Grows w w' := by
  have hb := ho.bd
  rw [hd.out] at hb
  have b1 := ho.y1
  have b2 := ho.y2
  have b3 := ho.m1
  have b4 := ho.m2
  have sb := Cal.st_bd b1 (by omega)
  have yu : ∀ t : Int, t < y → Cal.st (t + 1) ≤ d + 25567 := fun t h => hd.out ▸ ho.year_up h
  have mu : ∀ t : Int, 1 ≤ t → t < m → Cal.cum y t + Cal.dim y t ≤ d + 25567 - Cal.st y := fun t h1 h2 => hd.out ▸ ho.month_up h1 h2
  have YU := Lib.hid yu
  have MU := Lib.hid mu
  clear yu mu
  go_enter Tryd.func14, Tryd.ntmps14
  go_wp2
  obtain ⟨rb, hrb⟩ : ∃ x, w.heap.size = x := ⟨_, rfl⟩
  obtain ⟨w0, hw0⟩ : ∃ x, w.alloc (.cells #[.int .i64 0, .int .i64 0, .int .i64 0] 39) = x := ⟨_, rfl⟩
  have g0 : Grows w w0 := hw0 ▸ .of_alloc _ _
  have s0 : rb < w0.heap.size := hw0 ▸ hrb ▸ size_new _ _
  have c0 : w0.cell? ⟨rb, 0, none⟩ = some (.int .i64 0) := hw0 ▸ hrb ▸ new_cell _ _ _ _ rfl
  have c1 : w0.cell? ⟨rb, 1, none⟩ = some (.int .i64 0) := hw0 ▸ hrb ▸ new_cell _ _ _ _ rfl
  have c2 : w0.cell? ⟨rb, 2, none⟩ = some (.int .i64 0) := hw0 ▸ hrb ▸ new_cell _ _ _ _ rfl
  have f0 : ∀ o, w0.frozen? ⟨rb, o, none⟩ = false := fun o => hw0 ▸ hrb ▸ new_frozen _ _ _ _
  have hle : w.heap.size ≤ rb := by omega
  rw [hw0, hrb]
  clear hw0 hrb
  have CC := Lib.hid (And.intro c0 (And.intro c1 (And.intro c2 f0)))
  clear c0 c1 c2 f0
  go_loop [3, 4] (fun n t => ∃ k : Int, 1900 ≤ k ∧ k ≤ y ∧ t = .int .i64 k ∧ n = .int .i64 (d + 25567 - Cal.st k)) (fun _ t => (9999 - intOf t).toNat)
  case atStart => exact ⟨1900, by omega, b1, rfl, by rw [Cal.st_1900]; go_num⟩
  case round =>
    obtain ⟨k, hk1, hk2, rfl, rfl⟩ := hrel
    have sk := Cal.st_bd hk1 (by omega)
    have HSS := Lib.hid (Cal.st_succ k)
    have lk := Cal.lp_01 k
    by_cases hlt : k < y
    · have h3 : 365 + Cal.lp k ≤ d + 25567 - Cal.st k := by have := YU.out k hlt; have := HSS.out; omega
      go_wp2_with fail
      refine (r4_year k _ (by omega) (by omega)).mono ?_
      rintro e w1 ⟨rfl, rfl⟩
      go_wp2_with fail
      refine (r4_year k _ (by omega) (by omega)).mono ?_
      rintro e w1 ⟨rfl, rfl⟩
      go_wp2
      go_round
      case rel => exact ⟨k + 1, by omega, by omega, rfl, by rw [HSS.out]; go_num⟩
      case measure => simp [intOf]; omega
    · obtain rfl : k = y := by omega
      have h3 : ¬ 365 + Cal.lp k ≤ d + 25567 - Cal.st k := by have := HSS.out; omega
      go_wp2_with fail
      refine (r4_year k _ (by omega) (by omega)).mono ?_
      rintro e w1 ⟨rfl, rfl⟩
      obtain ⟨wo, rfl⟩ : ∃ wo : World, wo = w0 := ⟨_, rfl⟩
      go_wp2
      go_loopw [3, 5] (fun n t wr => ∃ j : Int, 1 ≤ j ∧ j ≤ m ∧ t = .int .i64 j ∧ n = .int .i64 (d + 25567 - Cal.st k - Cal.cum k j) ∧ Grows wo wr) (fun _ t _ => (99 - intOf t).toNat)
      case atStart => exact ⟨1, by omega, b3, rfl, by simp [Cal.cum_1], .refl _⟩
      case round =>
        obtain ⟨j, hj1, hj2, rfl, rfl, hg⟩ := hrel
        have cb := Cal.cum_bd (y := k) (m := j) hj1 (by omega)
        have db := Cal.dim_bd k j
        by_cases hjm : j < m
        · have h4 := MU.out j hj1 hjm
          have CS := Lib.hid (Cal.cum_succ (y := k) (m := j) hj1 (by omega))
          go_wp2_with fail
          refine (r4_Month k j _ b1 b2 hj1 (by omega)).mono ?_
          rintro e w1 ⟨rfl, hg1⟩
          go_wp2_with fail
          refine (r4_Month k j _ b1 b2 hj1 (by omega)).mono ?_
          rintro e w2 ⟨rfl, hg2⟩
          go_wp2
          exact ⟨⟨j + 1, by omega, by omega, rfl, by rw [CS.out]; go_num, (hg.trans hg1).trans hg2⟩, by simp [intOf]; omega⟩
        · obtain rfl : j = m := by omega
          have DD : Hid (d + 25567 - Cal.st k - Cal.cum k j + 1 = dd) := Lib.hid (by have := hd.out; unfold Cal.num at this; omega)
          have h4 : ¬ Cal.dim k j ≤ d + 25567 - Cal.st k - Cal.cum k j := by have := DD.out; have := ho.d2; omega
          go_wp2_with fail
          refine (r4_Month k j _ b1 b2 hj1 (by omega)).mono ?_
          rintro e w1 ⟨rfl, hg1⟩
          have gz := hg.trans hg1
          have c0 := gz.cell s0 CC.out.1
          have c1 := gz.cell s0 CC.out.2.1
          have c2 := gz.cell s0 CC.out.2.2.1
          have f0 := (gz.cells.2 rb 0 s0).trans (CC.out.2.2.2 0)
          have f1 := (gz.cells.2 rb 1 s0).trans (CC.out.2.2.2 1)
          have f2 := (gz.cells.2 rb 2 s0).trans (CC.out.2.2.2 2)
          have GW := Lib.hid (g0.trans gz)
          clear gz hg hg1
          go_wp2
          have z : Grows w _ := ((GW.out.setCell (p := ⟨rb, 0, none⟩) hle (.int .i64 k)).setCell (p := ⟨rb, 1, none⟩) hle (.int .i64 j)).setCell (p := ⟨rb, 2, none⟩) hle (.int .i64 (d + 25567 - Cal.st k - Cal.cum k j + 1))
          refine bodyPost_ret (v := .agg #[.int .i64 k, .int .i64 j, .int .i64 (d + 25567 - Cal.st k - Cal.cum k j + 1)]) (by simp [results, Tryd.results14, go_sem, c0, c1, c2]) rfl ⟨by rw [DD.out], z⟩
end Go.Proofs.YtkbpdbfldijeeaaDoor
