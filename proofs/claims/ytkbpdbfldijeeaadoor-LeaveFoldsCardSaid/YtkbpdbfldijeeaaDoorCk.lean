/- Contract of leave.check. -/
import Derived.Test.YtkbpdbfldijeeaaDoorCix
import Derived.Test.YtkbpdbfldijeeaaDoorMv
namespace Go.Proofs.YtkbpdbfldijeeaaDoor
open Go.RowKit Go.Sort Go.BigFrame

theorem lv_within (n top : Int) (w : World) : Calls Tryd.prog 31 #[.int .i64 n, .int .i64 top] w fun e w' => e = .returned (.bool (decide (0 ≤ n ∧ n ≤ top))) ∧ w = w' := by
  go_enter Tryd.func31, Tryd.ntmps31
  by_cases h1 : 0 ≤ n
  · go_wp2
    go_ret
    exact ⟨ret_b (by simp [h1]), rfl⟩
  · go_wp2
    go_ret
    exact ⟨ret_b (by simp; omega), rfl⟩

theorem wd_neg (d : Int) : (decide (wdV d < 0) = true ↔ (d < -25567 ∨ 84005 < d)) := by
  unfold wdV; rw [decide_eq_true_iff]; split <;> omega

set_option maxHeartbeats 1000000 in
theorem lv_check (yr ca ex un : Int) (l : List Mv) (A : Option Addr) (cap : Nat) (w : World) (hl : l.length ≤ 9223372036854775807) (hun : -9223372036854775808 ≤ un ∧ un ≤ 9223372036854775807) (hdy : ∀ x ∈ l, -9223372036854775808 ≤ x.1 ∧ x.1 ≤ 9223372036854775807)
    (ht : Tab w) (hs : Sl encM 3 w w.heap.size A l) :
    Calls Tryd.prog 18 #[.agg #[.int .i64 yr, .int .i64 ca, .int .i64 ex], .int .i64 un, .slice A l.length cap] w fun e w' => e = .returned (.int .i64 (chkV yr ca ex un l)) ∧ Grows w w' := by
  have HD := Lib.hid hdy
  clear hdy
  by_cases hp : noPlan yr ca ex
  · have L := Lib.hid (show chkV yr ca ex un l = 2 from if_pos hp)
    unfold noPlan at hp
    by_cases h1 : yr < 1900
    · go_enter Tryd.func18, Tryd.ntmps18
      go_wp2
      go_ret
      exact ⟨ret_i L.out.symm, .of_alloc _ _⟩
    by_cases h2 : 2199 < yr
    · go_enter Tryd.func18, Tryd.ntmps18
      go_wp2
      go_ret
      exact ⟨ret_i L.out.symm, .of_alloc _ _⟩
    by_cases h3 : 0 ≤ ca ∧ ca ≤ 1000000
    · have d3 : decide (0 ≤ ca ∧ ca ≤ 1000000) = true := decide_eq_true h3
      have d4 : decide (0 ≤ ex ∧ ex ≤ 12) = false := decide_eq_false (by omega)
      clear h3
      go_enter Tryd.func18, Tryd.ntmps18
      go_wp2_with fail
      refine (lv_within ca 1000000 _).mono ?_
      rintro e w1 ⟨rfl, rfl⟩
      rw [d3]
      go_wp2_with fail
      refine (lv_within ex 12 _).mono ?_
      rintro e w1 ⟨rfl, rfl⟩
      rw [d4]
      go_wp2
      go_ret
      exact ⟨ret_i L.out.symm, .of_alloc _ _⟩
    · have d3 : decide (0 ≤ ca ∧ ca ≤ 1000000) = false := decide_eq_false h3
      clear h3
      go_enter Tryd.func18, Tryd.ntmps18
      go_wp2_with fail
      refine (lv_within ca 1000000 _).mono ?_
      rintro e w1 ⟨rfl, rfl⟩
      rw [d3]
      go_wp2
      go_ret
      exact ⟨ret_i L.out.symm, .of_alloc _ _⟩
  have HP := Lib.hid hp
  unfold noPlan at hp
  have h1 : 1900 ≤ yr := by omega
  have h2 : yr ≤ 2199 := by omega
  have d3 : decide (0 ≤ ca ∧ ca ≤ 1000000) = true := decide_eq_true (by omega)
  have d4 : decide (0 ≤ ex ∧ ex ≤ 12) = true := decide_eq_true (by omega)
  clear hp
  have tg := ht.grows (.of_alloc w (.cells #[.int .i64 yr, .int .i64 ca, .int .i64 ex] 23))
  go_enter Tryd.func18, Tryd.ntmps18
  go_wp2_with fail
  refine (lv_within ca 1000000 _).mono ?_
  rintro e w1 ⟨rfl, rfl⟩
  rw [d3]
  go_wp2_with fail
  refine (lv_within ex 12 _).mono ?_
  rintro e w1 ⟨rfl, rfl⟩
  rw [d4]
  go_wp2_with fail
  refine (civ_Weekday un _ hun).mono ?_
  rintro e w1 ⟨rfl, rfl⟩
  by_cases hu : un < -25567 ∨ 84005 < un
  · have L := Lib.hid (show chkV yr ca ex un l = 15 by unfold chkV; rw [if_neg HP.out, if_pos hu])
    have d5 := (wd_neg un).2 hu
    have d6 : wdV un < 0 := of_decide_eq_true d5
    clear hu
    go_wp2
    go_ret
    exact ⟨ret_i L.out.symm, .of_alloc _ _⟩
  have d5 : ¬ wdV un < 0 := fun h => hu ((wd_neg un).1 (decide_eq_true h))
  by_cases h6 : 4096 < l.length
  · have L := Lib.hid (show chkV yr ca ex un l = 5 by unfold chkV; rw [if_neg HP.out, if_neg hu, if_pos h6])
    clear hu
    go_wp2
    go_ret
    exact ⟨ret_i L.out.symm, .of_alloc _ _⟩
  have PL := Lib.hid (show Plan yr ca ex un l from ⟨HP.out, hu, h6⟩)
  clear hu
  go_wp2
  obtain ⟨pb, hpb⟩ : ∃ B, w.heap.size = B := ⟨_, rfl⟩
  obtain ⟨w0, hw0⟩ : ∃ x, w.alloc (.cells #[.int .i64 yr, .int .i64 ca, .int .i64 ex] 23) = x := ⟨_, rfl⟩
  have g0 : Grows w w0 := hw0 ▸ .of_alloc _ _
  have s0 : pb < w0.heap.size := hw0 ▸ hpb ▸ size_new _ _
  have p0 : w0.cell? ⟨pb, 0, none⟩ = some (.int .i64 yr) := hw0 ▸ hpb ▸ new_cell _ _ _ _ rfl
  rw [hw0] at tg
  have hs0 := hs.grows g0 (Nat.le_refl _)
  rw [hpb] at hs0
  rw [hw0, hpb]
  clear hw0 hs hpb
  have HS := Lib.hid hs0
  clear hs0
  go_loopw [34] (fun iv wr => ∃ k : Nat, k ≤ l.length ∧ iv = .int .i64 k ∧ Hid (∀ j, j < k → badM yr l j = 0) ∧ Grows w0 wr) (fun iv _ => l.length - (intOf iv).toNat)
  case atStart => exact ⟨0, Nat.zero_le _, rfl, Lib.hid (fun _ h => absurd h (by omega)), .refl _⟩
  case round =>
    obtain ⟨k, hk, rfl, HZ, hg⟩ := hrel
    by_cases hlt : k < l.length
    · obtain ⟨b, off, rfl, hB, hc⟩ := HS.out (by intro h; simp [h] at hlt)
      obtain ⟨⟨d, gr, tk⟩, hx⟩ : ∃ x, l[k]? = some x := ⟨_, List.getElem?_eq_getElem hlt⟩
      have hd := HD.out _ (List.mem_of_getElem? hx)
      have C0 : wr.cell? ⟨b, off + k * 3, none⟩ = some (.int .i64 d) := hg.cell (by omega) (by simpa using hc k _ hx 0 _ rfl)
      have C1 : wr.cell? ⟨b, off + k * 3 + 1, none⟩ = some (.int .i64 gr) := hg.cell (by omega) (hc k _ hx 1 _ rfl)
      have C2 : wr.cell? ⟨b, off + k * 3 + 2, none⟩ = some (.int .i64 tk) := hg.cell (by omega) (hc k _ hx 2 _ rfl)
      have HX := Lib.hid hx
      have HC := Lib.hid hc
      have hgs := hg.size
      clear hx hc
      go_wp2_with fail
      refine (civ_Weekday d _ hd).mono ?_
      rintro e w1 ⟨rfl, rfl⟩
      by_cases he : d < -25567 ∨ 84005 < d
      · have d7 : wdV d < 0 := of_decide_eq_true ((wd_neg d).2 he)
        have L := Lib.hid (chkM_bad PL.out HZ.out hlt (badM_early HX.out (by unfold early; simp only; omega)) (by omega))
        clear he
        go_wp2
        go_ret
        exact ⟨ret_i L.out, (g0.trans hg).trans (.of_alloc _ _)⟩
      have d7 : ¬ wdV d < 0 := fun h => he ((wd_neg d).1 (decide_eq_true h))
      go_wp2
      obtain ⟨mb, hmb⟩ : ∃ B, wr.heap.size = B := ⟨_, rfl⟩
      obtain ⟨wa, hwa⟩ : ∃ x, wr.alloc (.cells #[.int .i64 d, .int .i64 gr, .int .i64 tk] 42) = x := ⟨_, rfl⟩
      have ga : Grows wr wa := hwa ▸ .of_alloc _ _
      have sa : mb < wa.heap.size := hwa ▸ hmb ▸ size_new _ _
      have m0 : wa.cell? ⟨mb, 0, none⟩ = some (.int .i64 d) := hwa ▸ hmb ▸ new_cell _ _ _ _ rfl
      have m1 : wa.cell? ⟨mb, 1, none⟩ = some (.int .i64 gr) := hwa ▸ hmb ▸ new_cell _ _ _ _ rfl
      have m2 : wa.cell? ⟨mb, 2, none⟩ = some (.int .i64 tk) := hwa ▸ hmb ▸ new_cell _ _ _ _ rfl
      have gg := hg.trans ga
      have p1 := gg.cell s0 p0
      have ta := tg.grows gg
      have spa : pb < wa.heap.size := Nat.lt_of_lt_of_le s0 gg.size
      rw [hwa, hmb]
      have M0 := Lib.hid m0
      have M1 := Lib.hid m1
      have M2 := Lib.hid m2
      have P1 := Lib.hid p1
      have c0 := cellN sa m0
      have c1 := cellN spa p1
      clear hwa hmb m0 m1 m2 p1 C0 C1 C2 ga
      refine wp_region_quiet_grown (by kernel_rfl) (by kernel_rfl) ?_
      repeat (go_big_quiet_step (refine grown_any (first_of yr _ (ta.grows (.of_grow _ _ _)) h1 h2)))
      refine wpQuiet_nil ?_
      intro wb hw'
      obtain ⟨p, hw''⟩ := hw'
      have gb : Grows wa wb := ⟨p.n, p.os, hw''⟩
      clear hw'' p c0 c1
      have hgb := gg.trans gb
      have m0 := gb.cell sa M0.out
      have m1 := gb.cell sa M1.out
      have m2 := gb.cell sa M2.out
      have sb : mb < wb.heap.size := Nat.lt_of_lt_of_le sa gb.size
      have M0 := Lib.hid m0
      have M1 := Lib.hid m1
      have M2 := Lib.hid m2
      clear m0 m1 m2 gb ta sa spa P1 gg
      by_cases he2 : d < Cal.st yr - 25567
      · have L := Lib.hid (chkM_bad PL.out HZ.out hlt (badM_early HX.out (by unfold early; simp only; omega)) (by omega))
        clear he
        go_wp2
        go_ret
        exact ⟨ret_i L.out, g0.trans hgb⟩
      have HE : Hid (¬ early yr d) := Lib.hid (by unfold early; omega)
      clear he
      by_cases hk0 : 0 < k
      · have q1 : decide (0 < k) = true := decide_eq_true hk0
        obtain ⟨⟨d', gr', tk'⟩, hy⟩ : ∃ x, l[k - 1]? = some x := ⟨_, List.getElem?_eq_getElem (by omega)⟩
        have cp : wb.cell? ⟨b, off + (k - 1) * 3, none⟩ = some (.int .i64 d') := hgb.cell (by omega) (by simpa using HC.out (k - 1) _ hy 0 _ rfl)
        have c0 := cellN sb M0.out
        have cq := cellN (show b < wb.heap.size by have := hgb.size; omega) cp
        have HY := Lib.hid hy
        have hk2 : (0 : Int) ≤ (k : Int) - 1 := by omega
        have hk3 : (k : Int) - 1 < (l.length : Int) := by omega
        have hk4 : ((k : Int) - 1).toNat = k - 1 := by omega
        have hk5 : IntKind.i64.wrap ((k : Int) - 1) = (k : Int) - 1 := IntWalk.i64_in _ (by omega)
        clear cp hy
        go_wp2_with fail
        refine wp_region_quiet_grown (by kernel_rfl) (by kernel_rfl) ?_
        repeat (go_big_quiet_step (fail))
        refine wpQuiet_nil ?_
        intro wc hw'
        obtain ⟨p, hw''⟩ := hw'
        have gc : Grows wb wc := ⟨p.n, p.os, hw''⟩
        clear hw'' p c0 cq
        have m1 := gc.cell sb M1.out
        have m2 := gc.cell sb M2.out
        have hgc := hgb.trans gc
        clear gc sb M0
        by_cases hdd : d < d'
        · have L := Lib.hid (chkM_bad PL.out HZ.out hlt (badM_order HX.out HY.out HE.out hk0 hdd) (by omega))
          go_wp2
          go_ret
          exact ⟨ret_i L.out, g0.trans hgc⟩
        have HO : Hid (¬ (0 < k ∧ d < dayOf l (k - 1))) := Lib.hid (by rw [dayOf_at HY.out]; omega)
        by_cases w1 : 0 ≤ gr ∧ gr ≤ 1000000
        · by_cases w2 : 0 ≤ tk ∧ tk ≤ 1000000
          · have e1 : decide (0 ≤ gr ∧ gr ≤ 1000000) = true := decide_eq_true w1
            have e2 : decide (0 ≤ tk ∧ tk ≤ 1000000) = true := decide_eq_true w2
            have BZ := Lib.hid (badM_more HZ.out (badM_fine HX.out HE.out HO.out (by unfold unfit; simp only; omega)))
            clear w1 w2
            go_wp2_with fail
            refine (lv_within gr 1000000 _).mono ?_
            rintro e w1 ⟨rfl, rfl⟩
            rw [e1]
            go_wp2_with fail
            refine (lv_within tk 1000000 _).mono ?_
            rintro e w1 ⟨rfl, rfl⟩
            rw [e2]
            go_wp2
            exact ⟨⟨k + 1, by omega, by go_num, BZ, hgc⟩, by simp [intOf]; omega⟩
          · have e1 : decide (0 ≤ gr ∧ gr ≤ 1000000) = true := decide_eq_true w1
            have e2 : decide (0 ≤ tk ∧ tk ≤ 1000000) = false := decide_eq_false w2
            have L := Lib.hid (chkM_bad PL.out HZ.out hlt (badM_unfit HX.out HE.out HO.out (by unfold unfit; simp only; omega)) (by omega))
            clear w1 w2
            go_wp2_with fail
            refine (lv_within gr 1000000 _).mono ?_
            rintro e w1 ⟨rfl, rfl⟩
            rw [e1]
            go_wp2_with fail
            refine (lv_within tk 1000000 _).mono ?_
            rintro e w1 ⟨rfl, rfl⟩
            rw [e2]
            go_wp2
            go_ret
            exact ⟨ret_i L.out, g0.trans hgc⟩
        · have e1 : decide (0 ≤ gr ∧ gr ≤ 1000000) = false := decide_eq_false w1
          have L := Lib.hid (chkM_bad PL.out HZ.out hlt (badM_unfit HX.out HE.out HO.out (by unfold unfit; simp only; omega)) (by omega))
          clear w1
          go_wp2_with fail
          refine (lv_within gr 1000000 _).mono ?_
          rintro e w1 ⟨rfl, rfl⟩
          rw [e1]
          go_wp2
          go_ret
          exact ⟨ret_i L.out, g0.trans hgc⟩
      · have q1 : decide (0 < k) = false := decide_eq_false hk0
        have c0 := cellN sb M0.out
        go_wp2_with fail
        refine wp_region_quiet_grown (by kernel_rfl) (by kernel_rfl) ?_
        repeat (go_big_quiet_step (fail))
        refine wpQuiet_nil ?_
        intro wc hw'
        obtain ⟨p, hw''⟩ := hw'
        have gc : Grows wb wc := ⟨p.n, p.os, hw''⟩
        clear hw'' p c0
        have m1 := gc.cell sb M1.out
        have m2 := gc.cell sb M2.out
        have hgc := hgb.trans gc
        clear gc sb M0
        have HO : Hid (¬ (0 < k ∧ d < dayOf l (k - 1))) := Lib.hid (by omega)
        by_cases w1 : 0 ≤ gr ∧ gr ≤ 1000000
        · by_cases w2 : 0 ≤ tk ∧ tk ≤ 1000000
          · have e1 : decide (0 ≤ gr ∧ gr ≤ 1000000) = true := decide_eq_true w1
            have e2 : decide (0 ≤ tk ∧ tk ≤ 1000000) = true := decide_eq_true w2
            have BZ := Lib.hid (badM_more HZ.out (badM_fine HX.out HE.out HO.out (by unfold unfit; simp only; omega)))
            clear w1 w2
            go_wp2_with fail
            refine (lv_within gr 1000000 _).mono ?_
            rintro e w1 ⟨rfl, rfl⟩
            rw [e1]
            go_wp2_with fail
            refine (lv_within tk 1000000 _).mono ?_
            rintro e w1 ⟨rfl, rfl⟩
            rw [e2]
            go_wp2
            exact ⟨⟨k + 1, by omega, by go_num, BZ, hgc⟩, by simp [intOf]; omega⟩
          · have e1 : decide (0 ≤ gr ∧ gr ≤ 1000000) = true := decide_eq_true w1
            have e2 : decide (0 ≤ tk ∧ tk ≤ 1000000) = false := decide_eq_false w2
            have L := Lib.hid (chkM_bad PL.out HZ.out hlt (badM_unfit HX.out HE.out HO.out (by unfold unfit; simp only; omega)) (by omega))
            clear w1 w2
            go_wp2_with fail
            refine (lv_within gr 1000000 _).mono ?_
            rintro e w1 ⟨rfl, rfl⟩
            rw [e1]
            go_wp2_with fail
            refine (lv_within tk 1000000 _).mono ?_
            rintro e w1 ⟨rfl, rfl⟩
            rw [e2]
            go_wp2
            go_ret
            exact ⟨ret_i L.out, g0.trans hgc⟩
        · have e1 : decide (0 ≤ gr ∧ gr ≤ 1000000) = false := decide_eq_false w1
          have L := Lib.hid (chkM_bad PL.out HZ.out hlt (badM_unfit HX.out HE.out HO.out (by unfold unfit; simp only; omega)) (by omega))
          clear w1
          go_wp2_with fail
          refine (lv_within gr 1000000 _).mono ?_
          rintro e w1 ⟨rfl, rfl⟩
          rw [e1]
          go_wp2
          go_ret
          exact ⟨ret_i L.out, g0.trans hgc⟩
    · have KL : Hid (k = l.length) := Lib.hid (by omega)
      go_wp2
      go_ret
      exact ⟨ret_i (chkM_ok PL.out HZ.out KL.out), g0.trans hg⟩
end Go.Proofs.YtkbpdbfldijeeaaDoor
