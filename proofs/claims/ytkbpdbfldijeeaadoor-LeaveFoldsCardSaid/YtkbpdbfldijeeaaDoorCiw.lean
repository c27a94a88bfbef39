/- Contracts of the calendar's functions, second part: To, Of, AddMonths. -/
import Derived.Test.YtkbpdbfldijeeaaDoorCiv
namespace Go.Proofs.YtkbpdbfldijeeaaDoor
open Go.RowKit Go.Sort Go.BigFrame

theorem mdV_ok {y m : Int} (h1 : 1900 ≤ y) (h2 : y ≤ 2199) (h3 : 1 ≤ m) (h4 : m ≤ 12) : mdV y m = Cal.dim y m := if_neg (by omega)

set_option maxHeartbeats 1000000 in
theorem civ_To (y m dd d : Int) (w : World) (ht : Tab w) (ho : Cal.Ok y m dd) (hd : Hid (Cal.num y m dd = d + 25567)) : Calls Tryd.prog 43 #[.int .i64 d] w fun e w' => e = .returned (.agg #[.int .i64 y, .int .i64 m, .int .i64 dd]) ∧ Grows w w' := by
  have hb := ho.bd
  have g0 := Cal.guess (n := d + 25567) (by rw [← hd.out]; omega) (by rw [← hd.out]; omega)
  rw [hd.out] at hb
  have g1 : 1900 + (d + 25567) / 366 ≤ y := ho.le_year (by rw [hd.out]; exact g0.1)
  have hin : decide (-25567 ≤ d ∧ d ≤ 84005) = true := by simp; omega
  have b1 := ho.y1
  have b2 := ho.y2
  have b3 := ho.m1
  have b4 := ho.m2
  have sb := Cal.st_bd b1 (by omega)
  have yu : ∀ t : Int, t < y → Cal.st (t + 1) ≤ d + 25567 := fun t h => hd.out ▸ ho.year_up h
  have mu : ∀ t : Int, 1 ≤ t → t < m → Cal.cum y t + Cal.dim y t ≤ d + 25567 - Cal.st y := fun t h1 h2 => hd.out ▸ ho.month_up h1 h2
  have YU := Lib.hid yu
  have MU := Lib.hid mu
  clear yu mu
  go_enter Tryd.func43, Tryd.ntmps43
  go_wp2_with fail
  refine (civ_in d _ (by omega)).mono ?_
  rintro e w1 ⟨rfl, rfl⟩
  rw [hin]
  go_wp2
  go_loop [4] (fun t => ∃ k : Int, 1900 ≤ k ∧ k ≤ y ∧ t = .int .i64 k) (fun t => (9999 - intOf t).toNat)
  case atStart => exact ⟨_, by omega, g1, rfl⟩
  case round =>
    obtain ⟨k, hk1, hk2, rfl⟩ := hrel
    by_cases hlt : k < y
    · have h3 := YU.out k hlt
      go_wp2_with fail
      refine (civ_start (k + 1) _ (by omega) (by omega)).mono ?_
      rintro e w1 ⟨rfl, rfl⟩
      go_wp2
      go_round
      case rel => exact ⟨k + 1, by omega, by omega, rfl⟩
      case measure => simp [intOf]; omega
    · obtain rfl : k = y := by omega
      have h3 : ¬ Cal.st (k + 1) ≤ d + 25567 := by omega
      go_wp2_with fail
      refine (civ_start (k + 1) _ (by omega) (by omega)).mono ?_
      rintro e w1 ⟨rfl, rfl⟩
      go_wp2_with fail
      refine (civ_start k _ (by omega) (by omega)).mono ?_
      rintro e w1 ⟨rfl, rfl⟩
      go_wp2
      go_loop [3, 5] (fun n t => ∃ j : Int, 1 ≤ j ∧ j ≤ m ∧ t = .int .i64 j ∧ n = .int .i64 (d + 25567 - Cal.st k - Cal.cum k j)) (fun _ t => (99 - intOf t).toNat)
      case atStart => exact ⟨1, by omega, b3, rfl, by simp [Cal.cum_1]⟩
      case round =>
        obtain ⟨j, hj1, hj2, rfl, rfl⟩ := hrel
        have cb := Cal.cum_bd (y := k) (m := j) hj1 (by omega)
        have md := Lib.hid (mdV_ok b1 b2 hj1 (show j ≤ 12 by omega))
        have db := Cal.dim_bd k j
        have lb := Cal.lp_01 k
        by_cases hjm : j < m
        · have h4 := MU.out j hj1 hjm
          have CS := Lib.hid (Cal.cum_succ (y := k) (m := j) hj1 (by omega))
          go_wp2_with fail
          refine (civ_MonthDays k j _ (ht.grows (.of_alloc _ _))).mono ?_
          rintro e w1 ⟨rfl, rfl⟩
          rw [md.out]
          go_wp2_with fail
          refine (civ_MonthDays k j _ (ht.grows (.of_alloc _ _))).mono ?_
          rintro e w1 ⟨rfl, rfl⟩
          rw [md.out]
          go_wp2
          go_round
          case rel => exact ⟨j + 1, by omega, by omega, rfl, by rw [CS.out]; go_num⟩
          case measure => simp [intOf]; omega
        · obtain rfl : j = m := by omega
          have DD : Hid (d + 25567 - Cal.st k - Cal.cum k j + 1 = dd) := Lib.hid (by have := hd.out; unfold Cal.num at this; omega)
          have h4 : ¬ Cal.dim k j ≤ d + 25567 - Cal.st k - Cal.cum k j := by have := DD.out; have := ho.d2; omega
          go_wp2_with fail
          refine (civ_MonthDays k j _ (ht.grows (.of_alloc _ _))).mono ?_
          rintro e w1 ⟨rfl, rfl⟩
          rw [md.out]
          go_wp2
          refine bodyPost_ret (v := .agg #[.int .i64 k, .int .i64 j, .int .i64 (d + 25567 - Cal.st k - Cal.cum k j + 1)]) (by simp [results, Tryd.results43, go_sem]) rfl ⟨by rw [DD.out], .of_alloc _ _⟩

theorem civ_To_no (d : Int) (w : World) (hb : -9223372036854775808 ≤ d ∧ d ≤ 9223372036854775807) (h : d < -25567 ∨ 84005 < d) : Calls Tryd.prog 43 #[.int .i64 d] w fun e w' => e = .returned (.agg #[.int .i64 0, .int .i64 0, .int .i64 0]) ∧ Grows w w' := by
  have hin : decide (-25567 ≤ d ∧ d ≤ 84005) = false := by simp; omega
  go_enter Tryd.func43, Tryd.ntmps43
  go_wp2_with fail
  refine (civ_in d _ hb).mono ?_
  rintro e w1 ⟨rfl, rfl⟩
  rw [hin]
  go_wp2
  exact bodyPost_ret (v := .agg #[.int .i64 0, .int .i64 0, .int .i64 0]) (by simp [results, Tryd.results43, go_sem]) rfl ⟨rfl, .of_alloc _ _⟩

def wdV (d : Int) : Int := if -25567 ≤ d ∧ d ≤ 84005 then (d + 25567) % 7 else -1
theorem civ_Weekday (d : Int) (w : World) (hb : -9223372036854775808 ≤ d ∧ d ≤ 9223372036854775807) : Calls Tryd.prog 32 #[.int .i64 d] w fun e w' => e = .returned (.int .i64 (wdV d)) ∧ w = w' := by
  by_cases h : -25567 ≤ d ∧ d ≤ 84005
  · have hin : decide (-25567 ≤ d ∧ d ≤ 84005) = true := by simp; omega
    have h1 := h.1
    have h2 := h.2
    have L := Lib.hid (show wdV d = (d + 25567) % 7 from if_pos h)
    go_enter Tryd.func32, Tryd.ntmps32
    go_wp2_with fail
    refine (civ_in d _ hb).mono ?_
    rintro e w1 ⟨rfl, rfl⟩
    rw [hin]
    go_wp2
    go_ret
    exact ⟨ret_i L.out.symm, rfl⟩
  · have hin : decide (-25567 ≤ d ∧ d ≤ 84005) = false := by simp; omega
    have L := Lib.hid (show wdV d = -1 from if_neg h)
    go_enter Tryd.func32, Tryd.ntmps32
    go_wp2_with fail
    refine (civ_in d _ hb).mono ?_
    rintro e w1 ⟨rfl, rfl⟩
    rw [hin]
    go_wp2
    go_ret
    exact ⟨ret_i L.out.symm, rfl⟩

set_option maxHeartbeats 1000000 in
theorem civ_Of (y m dd : Int) (w : World) (ht : Tab w) (ho : Cal.Ok y m dd) : Calls Tryd.prog 42 #[.agg #[.int .i64 y, .int .i64 m, .int .i64 dd]] w fun e w' => e = .returned (.tuple #[.int .i64 (Cal.num y m dd - 25567), .int .i64 0]) ∧ Grows w w' := by
  have hb := ho.bd
  have b1 := ho.y1
  have b2 := ho.y2
  have b3 := ho.m1
  have b4 := ho.m2
  have b5 := ho.d1
  have b6 := ho.d2
  have db := Cal.dim_bd y m
  have md := Lib.hid (mdV_ok b1 b2 b3 b4)
  have hd1 : decide (dd < 1) = false := by simp; omega
  go_enter Tryd.func42, Tryd.ntmps42
  go_wp2_with fail
  obtain ⟨B, hB⟩ : ∃ B, w.heap.size = B := ⟨_, rfl⟩
  obtain ⟨wa, hwa⟩ : ∃ x, w.alloc (.cells #[.int .i64 y, .int .i64 m, .int .i64 dd] 76 (0, 0)) = x := ⟨_, rfl⟩
  have ga : Grows w wa := hwa ▸ .of_alloc _ _
  have sa : B < wa.heap.size := hwa ▸ hB ▸ size_new _ _
  have a0 : wa.cell? ⟨B, 0, none⟩ = some (.int .i64 y) := hwa ▸ hB ▸ new_cell _ _ _ _ rfl
  have a1 : wa.cell? ⟨B, 1, none⟩ = some (.int .i64 m) := hwa ▸ hB ▸ new_cell _ _ _ _ rfl
  have a2 : wa.cell? ⟨B, 2, none⟩ = some (.int .i64 dd) := hwa ▸ hB ▸ new_cell _ _ _ _ rfl
  have ta := ht.grows ga
  rw [hwa, hB]
  clear hwa hB
  have A0 := Lib.hid a0
  have A1 := Lib.hid a1
  have A2 := Lib.hid a2
  have c0 := cellN sa a0
  have c1 := cellN sa a1
  have c2 := cellN sa a2
  clear a0 a1 a2
  have sq := Cal.st_bd b1 (by omega)
  have cb := Cal.cum_bd (y := y) b3 b4
  have lb := Cal.lp_01 y
  have hd2 : decide (Cal.dim y m < dd) = false := by simp; omega
  refine wp_region_quiet_grown (by kernel_rfl) (by kernel_rfl) ?_
  repeat (go_big_quiet_step (refine grown_same (civ_MonthDays y m _ (ta.grows (.of_grow _ _ _)))))
  refine wpQuiet_nil ?_
  intro wb hw'
  obtain ⟨p, hw''⟩ := hw'
  have gb : Grows wa wb := ⟨p.n, p.os, hw''⟩
  clear hw'' p c0 c1 c2
  have sb : B < wb.heap.size := Nat.lt_of_lt_of_le sa gb.size
  have d0 := gb.cell sa A0.out
  have d1 := gb.cell sa A1.out
  have d2 := gb.cell sa A2.out
  have tb := ta.grows gb
  have hgb := ga.trans gb
  rw [md.out, hd2]
  clear hd1 hd2 gb ga ta sa A0 A1 A2
  have A0 := Lib.hid d0
  have A1 := Lib.hid d1
  have A2 := Lib.hid d2
  have c0 := cellN sb d0
  have c1 := cellN sb d1
  have c2 := cellN sb d2
  clear d0 d1 d2
  go_wp2_with fail
  refine wp_region_quiet_grown (by kernel_rfl) (by kernel_rfl) ?_
  repeat (go_big_quiet_step (refine grown_same (civ_start y _ (by omega) (by omega))))
  refine wpQuiet_nil ?_
  intro wc hw'
  obtain ⟨p, hw''⟩ := hw'
  have gc : Grows wb wc := ⟨p.n, p.os, hw''⟩
  clear hw'' p c0 c1 c2
  have sc : B < wc.heap.size := Nat.lt_of_lt_of_le sb gc.size
  have c0 := gc.cell sb A0.out
  have c1 := gc.cell sb A1.out
  have c2 := gc.cell sb A2.out
  have tc := tb.grows gc
  have hgc := hgb.trans gc
  clear gc hgb tb sb A0 A1 A2
  go_wp2
  go_loop [4, 5] (fun n t => ∃ j : Int, 1 ≤ j ∧ j ≤ m ∧ t = .int .i64 j ∧ n = .int .i64 (Cal.st y + dd - 1 + Cal.cum y j)) (fun _ t => (99 - intOf t).toNat)
  case atStart => exact ⟨1, by omega, b3, rfl, by simp [Cal.cum_1]⟩
  case round =>
    obtain ⟨j, hj1, hj2, rfl, rfl⟩ := hrel
    have cbj := Cal.cum_bd (y := y) (m := j) hj1 (by omega)
    have dbj := Cal.dim_bd y j
    by_cases hjm : j < m
    · have mdj := Lib.hid (mdV_ok b1 b2 hj1 (show j ≤ 12 by omega))
      have CS := Lib.hid (Cal.cum_succ (y := y) (m := j) hj1 (by omega))
      go_wp2_with fail
      refine (civ_MonthDays y j _ tc).mono ?_
      rintro e w1 ⟨rfl, rfl⟩
      rw [mdj.out]
      go_wp2
      go_round
      case rel => exact ⟨j + 1, by omega, by omega, rfl, by rw [CS.out]; go_num⟩
      case measure => simp [intOf]; omega
    · obtain rfl : j = m := by omega
      have NUM : Hid (Cal.num y j dd = Cal.st y + dd - 1 + Cal.cum y j) := Lib.hid (by unfold Cal.num; omega)
      have HO : Hid (Cal.num y j dd = Cal.st y + dd - 1 + Cal.cum y j - 25567 + 25567) := Lib.hid (by have := NUM.out; omega)
      have W1 : IntKind.i64.wrap (Cal.st y + dd - 1 + Cal.cum y j - 25567) = Cal.st y + dd - 1 + Cal.cum y j - 25567 := IntWalk.i64_in _ (by omega)
      have C0 := Lib.hid c0
      have C1 := Lib.hid c1
      have C2 := Lib.hid c2
      go_wp2
      have e0 := cellN sc C0.out
      have e1 := cellN sc C1.out
      have e2 := cellN sc C2.out
      clear c0 c1 c2
      refine wp_region_quiet_grown (by kernel_rfl) (by kernel_rfl) ?_
      repeat (go_big_quiet_step (refine grown_any (civ_To y j dd _ _ (tc.grows (.of_grow _ _ _)) ho HO)))
      refine wpQuiet_nil ?_
      intro wd hw'
      obtain ⟨p, hw''⟩ := hw'
      have gd : Grows wc wd := ⟨p.n, p.os, hw''⟩
      clear hw'' p e0 e1 e2
      go_wp2
      go_ret2
      exact ⟨by rw [NUM.out]; rfl, hgc.trans gd⟩

/-- A year's first day. -/
theorem first_of (y : Int) (w : World) (ht : Tab w) (h1 : 1900 ≤ y) (h2 : y ≤ 2199) : Calls Tryd.prog 33 #[.int .i64 y] w fun e w' => e = .returned (.int .i64 (Cal.st y - 25567)) ∧ Grows w w' := by
  have L := Lib.hid (Cal.num_jan y)
  go_enter Tryd.func33, Tryd.ntmps33
  go_wp2_with fail
  refine (civ_Of y 1 1 _ ht (Cal.ok_jan h1 h2)).mono ?_
  rintro e w1 ⟨rfl, hg⟩
  rw [L.out]
  go_wp2
  go_ret
  exact ⟨rfl, hg⟩
end Go.Proofs.YtkbpdbfldijeeaaDoor
