/- The reference's look at a fact: its parts. -/
import Derived.Test.YtdpejolpjhlibaaGreatDoorWg8
import Derived.Test.YtdpejolpjhlibaaGreatDoorRp2
import Derived.Test.YtdpejolpjhlibaaGreatDoorRw7
namespace Go.Proofs.YtdpejolpjhlibaaGreatDoor
open Go.RowKit Go.Sort

theorem r8_Firm (k : Int) (w : World) : Calls Tryz.prog 56 #[.int .i64 k] w fun e w' => e = .returned (.bool (firmB k)) ∧ w = w' := by
  by_cases h : k = 14 ∨ k = 15 ∨ k = 16 ∨ k = 18
  · have HV : Hid (firmB k = true) := Lib.hid (by unfold firmB; exact decide_eq_true h)
    rcases h with rfl | rfl | rfl | rfl
    all_goals
      go_enter Tryz.func56, Tryz.ntmps56
      go_wp2
      go_ret
      exact ⟨ret_b HV.out.symm, rfl⟩
  · have HV : Hid (firmB k = false) := Lib.hid (by unfold firmB; exact decide_eq_false h)
    have d1 : ((k : Int) == 14) = false := by simp; omega
    have d2 : ((k : Int) == 15) = false := by simp; omega
    have d3 : ((k : Int) == 16) = false := by simp; omega
    have d4 : ((k : Int) == 18) = false := by simp; omega
    clear h
    go_enter Tryz.func56, Tryz.ntmps56
    go_wp2
    go_ret
    exact ⟨ret_b HV.out.symm, rfl⟩
theorem r8_Days (k : Int) (w : World) (h1 : 1 ≤ k) (h18 : k ≤ 18) : Calls Tryz.prog 58 #[.int .i64 k] w fun e w' => e = .returned (.bool (daysB k)) ∧ w = w' := by
  obtain ⟨v, hv⟩ : ∃ v, daysB k = v := ⟨_, rfl⟩
  have h : k = 1 ∨ k = 2 ∨ k = 3 ∨ k = 4 ∨ k = 5 ∨ k = 6 ∨ k = 7 ∨ k = 8 ∨ k = 9 ∨ k = 10 ∨ k = 11 ∨ k = 12 ∨ k = 13 ∨ k = 14 ∨ k = 15 ∨ k = 16 ∨ k = 17 ∨ k = 18 := by omega
  clear h1 h18
  rcases h with rfl | rfl | rfl | rfl | rfl | rfl | rfl | rfl | rfl | rfl | rfl | rfl | rfl | rfl | rfl | rfl | rfl | rfl
  all_goals
    have HV := Lib.hid hv
    rw [hv]
    clear hv
    go_enter Tryz.func58, Tryz.ntmps58
    go_wp2
    go_ret
    exact ⟨ret_b (by rw [← HV.out]; decide), rfl⟩
theorem r4_In (d : Int) (w : World) : Calls Tryz.prog 57 #[.int .i64 d] w fun e w' => e = .returned (.bool (decide (-25567 ≤ d ∧ d ≤ 84005))) ∧ w = w' := by
  by_cases h1 : -25567 ≤ d
  · by_cases h2 : d ≤ 84005
    · have d1 : decide ((-25567 : Int) ≤ d) = true := decide_eq_true h1
      have d2 : decide (d ≤ (84005 : Int)) = true := decide_eq_true h2
      rw [decide_eq_true (And.intro h1 h2)]
      go_enter Tryz.func57, Tryz.ntmps57
      go_wp2
      go_ret
      exact ⟨rfl, rfl⟩
    · have d1 : decide ((-25567 : Int) ≤ d) = true := decide_eq_true h1
      have d2 : decide (d ≤ (84005 : Int)) = false := decide_eq_false h2
      rw [decide_eq_false (fun h => h2 h.2)]
      go_enter Tryz.func57, Tryz.ntmps57
      go_wp2
      go_ret
      exact ⟨rfl, rfl⟩
  · have d1 : decide ((-25567 : Int) ≤ d) = false := decide_eq_false h1
    rw [decide_eq_false (fun h => h1 h.1)]
    go_enter Tryz.func57, Tryz.ntmps57
    go_wp2
    go_ret
    exact ⟨rfl, rfl⟩
set_option maxHeartbeats 2000000 in
theorem r8_order (s : ByteArray) (w : World) (hs : s.size ≤ 1000000) : Calls Tryz.prog 87 #[.string s] w fun e w' => e = .returned (.bool (orderB (ls s))) ∧ Below w.heap.size w w' := by
  have HCUT := Lib.hid (r8_Cut1 s 32 w hs)
  go_enter Tryz.func87, Tryz.ntmps87
  go_wp2_with fail
  refine HCUT.out.mono ?_
  rintro e w1 ⟨⟨b, off, n, cap, L, rfl, hn, hn0, hns, hm, hlt, hc⟩, hb⟩
  have HB := Lib.hid hb
  have HM := Lib.hid hm
  by_cases h4 : n = 4
  · obtain ⟨p, q, r, t, hL⟩ : ∃ p q r t, L = [p, q, r, t] := by
      match L, hn.trans h4 with
      | [p, q, r, t], _ => exact ⟨p, q, r, t, rfl⟩
    subst hL
    have d1 : ((n : Int) != 4) = false := by simp [h4]
    have hp := piece_size hm (x := p) (by simp)
    have hq := piece_size hm (x := q) (by simp)
    have hr := piece_size hm (x := r) (by simp)
    have ht := piece_size hm (x := t) (by simp)
    have C0 : w1.cell? ⟨b, off, none⟩ = some (.string p) := hc 0 p rfl
    have C1 : w1.cell? ⟨b, off + 1, none⟩ = some (.string q) := hc 1 q rfl
    have C2 : w1.cell? ⟨b, off + 2, none⟩ = some (.string r) := hc 2 r rfl
    have C3 : w1.cell? ⟨b, off + 3, none⟩ = some (.string t) := hc 3 t rfl
    have n0 : 0 < n := hn0
    have n1 : 1 < n := by omega
    have n2 : 2 < n := by omega
    have n3 : 3 < n := by omega
    have HO := Lib.hid (orderB_at hm.symm)
    have HA := Lib.hid (r8_amount r w1 (by omega))
    have HA2 := Lib.hid (r8_amount t w1 (by omega))
    have HT := Lib.hid (r8_Tens p 99 w1 (by omega) (by omega))
    have HP := Lib.hid (r2_Parse q w1 (by omega))
    have H4 := Lib.hid h4
    clear hn hm hc hb hlt h4 hn0
    obtain ⟨a1, ha1⟩ : ∃ v, amountB (ls r) = v := ⟨_, rfl⟩
    obtain ⟨a2, ha2⟩ : ∃ v, amountB (ls t) = v := ⟨_, rfl⟩
    obtain ⟨a3, ha3⟩ : ∃ v, (tensO (ls p) 99).isSome = v := ⟨_, rfl⟩
    obtain ⟨rv, hrv⟩ : ∃ v, (rateE (ls q)).1 = v := ⟨_, rfl⟩
    obtain ⟨re, hre⟩ : ∃ v, (rateE (ls q)).2 = v := ⟨_, rfl⟩
    unfold TensIs at HT
    unfold rateR at HP
    rw [ha1] at HA HO
    rw [ha2] at HA2 HO
    rw [ha3] at HT HO
    rw [hrv] at HO HP
    rw [hre] at HO HP
    clear ha1 ha2 ha3 hrv hre
    go_wp2_with fail
    refine HA.out.mono ?_
    rintro e w2 ⟨rfl, rfl⟩
    cases a1 with
    | false =>
      have HF : Hid (orderB (ls s) = false) := Lib.hid (by rw [HO.out]; simp)
      go_wp2
      go_ret
      exact ⟨ret_b HF.out.symm, HB.out⟩
    | true =>
      go_wp2_with fail
      refine HA2.out.mono ?_
      rintro e w2 ⟨rfl, rfl⟩
      cases a2 with
      | false =>
        have HF : Hid (orderB (ls s) = false) := Lib.hid (by rw [HO.out]; simp)
        go_wp2
        go_ret
        exact ⟨ret_b HF.out.symm, HB.out⟩
      | true =>
        go_wp2_with fail
        refine HT.out.mono ?_
        rintro e w2 ⟨⟨v, rfl, _⟩, rfl⟩
        go_wp2_with fail
        refine HP.out.mono ?_
        rintro e w2 ⟨rfl, rfl⟩
        cases a3 with
        | false =>
          have HF : Hid (orderB (ls s) = false) := Lib.hid (by rw [HO.out]; simp)
          go_wp2
          go_ret
          exact ⟨ret_b HF.out.symm, HB.out⟩
        | true =>
          have HO2 : Hid (orderB (ls s) = decide (re = 0 ∧ 0 ≤ rv ∧ rv ≤ 1000000)) := Lib.hid (by rw [HO.out]; simp)
          by_cases h0 : re = 0
          · have d2 : ((re : Int) == 0) = true := by simp [h0]
            by_cases h1 : 0 ≤ rv
            · have d3 : decide ((0 : Int) ≤ rv) = true := decide_eq_true h1
              have HF : Hid (orderB (ls s) = decide (rv ≤ 1000000)) := Lib.hid (by rw [HO2.out]; exact decide_eq_decide.2 ⟨fun h => h.2.2, fun h => ⟨h0, h1, h⟩⟩)
              clear h0
              go_wp2
              go_ret
              exact ⟨ret_b HF.out.symm, HB.out⟩
            · have d3 : decide ((0 : Int) ≤ rv) = false := decide_eq_false h1
              have HF : Hid (orderB (ls s) = false) := Lib.hid (by rw [HO2.out]; exact decide_eq_false (fun h => h1 h.2.1))
              clear h0
              go_wp2
              go_ret
              exact ⟨ret_b HF.out.symm, HB.out⟩
          · have d2 : ((re : Int) == 0) = false := by simp [h0]
            have HF : Hid (orderB (ls s) = false) := Lib.hid (by rw [HO2.out]; exact decide_eq_false (fun h => h0 h.1))
            clear h0
            go_wp2
            go_ret
            exact ⟨ret_b HF.out.symm, HB.out⟩
  · have d1 : ((n : Int) != 4) = true := by simp; omega
    have HF : Hid (orderB (ls s) = false) := Lib.hid (orderB_len (by rw [← hm, List.length_map, hn]; exact h4))
    clear hn hm hc h4
    go_wp2
    go_ret
    exact ⟨ret_b HF.out.symm, HB.out⟩
set_option maxHeartbeats 1000000 in
theorem r8_num1 (id pe fr tt : Int) (co : ByteArray) (nu : Int) (tx : ByteArray) (w : World) : Calls Tryz.prog 60 #[.agg #[.int .u32 id, .int .u32 pe, .int .i64 1, .int .i64 fr, .int .i64 tt, .string co, .int .i64 nu, .string tx]] w fun e w' => e = .returned (.bool (!decide (nu < lowN 1 ∨ highN 1 < nu))) ∧ Below w.heap.size w w' := by
  have e1 : lowN 1 = 0 := rfl
  have e2 : highN 1 = 1 := rfl
  rw [e1, e2]
  clear e1 e2
  have HB := Lib.hid (bAlloc w (.cells #[.int .u32 id, .int .u32 pe, .int .i64 1, .int .i64 fr, .int .i64 tt, .string co, .int .i64 nu, .string tx] 37))
  by_cases h1 : 0 ≤ nu
  · have d1 : decide ((0 : Int) ≤ nu) = true := decide_eq_true h1
    by_cases h2 : nu ≤ 1
    · have d2 : decide (nu ≤ (1 : Int)) = true := decide_eq_true h2
      rw [decide_eq_false (show ¬ (nu < 0 ∨ 1 < nu) by omega)]
      go_enter Tryz.func60, Tryz.ntmps60
      go_wp2
      go_ret
      exact ⟨rfl, HB.out⟩
    · have d2 : decide (nu ≤ (1 : Int)) = false := decide_eq_false h2
      rw [decide_eq_true (show (nu < 0 ∨ 1 < nu) by omega)]
      go_enter Tryz.func60, Tryz.ntmps60
      go_wp2
      go_ret
      exact ⟨rfl, HB.out⟩
  · have d1 : decide ((0 : Int) ≤ nu) = false := decide_eq_false h1
    rw [decide_eq_true (show (nu < 0 ∨ 1 < nu) by omega)]
    go_enter Tryz.func60, Tryz.ntmps60
    go_wp2
    go_ret
    exact ⟨rfl, HB.out⟩
set_option maxHeartbeats 1000000 in
theorem r8_num2 (id pe fr tt : Int) (co : ByteArray) (nu : Int) (tx : ByteArray) (w : World) : Calls Tryz.prog 60 #[.agg #[.int .u32 id, .int .u32 pe, .int .i64 2, .int .i64 fr, .int .i64 tt, .string co, .int .i64 nu, .string tx]] w fun e w' => e = .returned (.bool (!decide (nu < lowN 2 ∨ highN 2 < nu))) ∧ Below w.heap.size w w' := by
  have e1 : lowN 2 = 0 := rfl
  have e2 : highN 2 = 1125899906842624 := rfl
  rw [e1, e2]
  clear e1 e2
  have HB := Lib.hid (bAlloc w (.cells #[.int .u32 id, .int .u32 pe, .int .i64 2, .int .i64 fr, .int .i64 tt, .string co, .int .i64 nu, .string tx] 37))
  by_cases h1 : 0 ≤ nu
  · have d1 : decide ((0 : Int) ≤ nu) = true := decide_eq_true h1
    by_cases h2 : nu ≤ 1125899906842624
    · have d2 : decide (nu ≤ (1125899906842624 : Int)) = true := decide_eq_true h2
      rw [decide_eq_false (show ¬ (nu < 0 ∨ 1125899906842624 < nu) by omega)]
      go_enter Tryz.func60, Tryz.ntmps60
      go_wp2
      go_ret
      exact ⟨rfl, HB.out⟩
    · have d2 : decide (nu ≤ (1125899906842624 : Int)) = false := decide_eq_false h2
      rw [decide_eq_true (show (nu < 0 ∨ 1125899906842624 < nu) by omega)]
      go_enter Tryz.func60, Tryz.ntmps60
      go_wp2
      go_ret
      exact ⟨rfl, HB.out⟩
  · have d1 : decide ((0 : Int) ≤ nu) = false := decide_eq_false h1
    rw [decide_eq_true (show (nu < 0 ∨ 1125899906842624 < nu) by omega)]
    go_enter Tryz.func60, Tryz.ntmps60
    go_wp2
    go_ret
    exact ⟨rfl, HB.out⟩
set_option maxHeartbeats 1000000 in
theorem r8_num3 (id pe fr tt : Int) (co : ByteArray) (nu : Int) (tx : ByteArray) (w : World) : Calls Tryz.prog 60 #[.agg #[.int .u32 id, .int .u32 pe, .int .i64 3, .int .i64 fr, .int .i64 tt, .string co, .int .i64 nu, .string tx]] w fun e w' => e = .returned (.bool (!decide (nu < lowN 3 ∨ highN 3 < nu))) ∧ Below w.heap.size w w' := by
  have e1 : lowN 3 = 0 := rfl
  have e2 : highN 3 = 1000000 := rfl
  rw [e1, e2]
  clear e1 e2
  have HB := Lib.hid (bAlloc w (.cells #[.int .u32 id, .int .u32 pe, .int .i64 3, .int .i64 fr, .int .i64 tt, .string co, .int .i64 nu, .string tx] 37))
  by_cases h1 : 0 ≤ nu
  · have d1 : decide ((0 : Int) ≤ nu) = true := decide_eq_true h1
    by_cases h2 : nu ≤ 1000000
    · have d2 : decide (nu ≤ (1000000 : Int)) = true := decide_eq_true h2
      rw [decide_eq_false (show ¬ (nu < 0 ∨ 1000000 < nu) by omega)]
      go_enter Tryz.func60, Tryz.ntmps60
      go_wp2
      go_ret
      exact ⟨rfl, HB.out⟩
    · have d2 : decide (nu ≤ (1000000 : Int)) = false := decide_eq_false h2
      rw [decide_eq_true (show (nu < 0 ∨ 1000000 < nu) by omega)]
      go_enter Tryz.func60, Tryz.ntmps60
      go_wp2
      go_ret
      exact ⟨rfl, HB.out⟩
  · have d1 : decide ((0 : Int) ≤ nu) = false := decide_eq_false h1
    rw [decide_eq_true (show (nu < 0 ∨ 1000000 < nu) by omega)]
    go_enter Tryz.func60, Tryz.ntmps60
    go_wp2
    go_ret
    exact ⟨rfl, HB.out⟩
set_option maxHeartbeats 1000000 in
theorem r8_num4 (id pe fr tt : Int) (co : ByteArray) (nu : Int) (tx : ByteArray) (w : World) : Calls Tryz.prog 60 #[.agg #[.int .u32 id, .int .u32 pe, .int .i64 4, .int .i64 fr, .int .i64 tt, .string co, .int .i64 nu, .string tx]] w fun e w' => e = .returned (.bool (!decide (nu < lowN 4 ∨ highN 4 < nu))) ∧ Below w.heap.size w w' := by
  have e1 : lowN 4 = 0 := rfl
  have e2 : highN 4 = 0 := rfl
  rw [e1, e2]
  clear e1 e2
  have HB := Lib.hid (bAlloc w (.cells #[.int .u32 id, .int .u32 pe, .int .i64 4, .int .i64 fr, .int .i64 tt, .string co, .int .i64 nu, .string tx] 37))
  by_cases h1 : 0 ≤ nu
  · have d1 : decide ((0 : Int) ≤ nu) = true := decide_eq_true h1
    by_cases h2 : nu ≤ 0
    · have d2 : decide (nu ≤ (0 : Int)) = true := decide_eq_true h2
      rw [decide_eq_false (show ¬ (nu < 0 ∨ 0 < nu) by omega)]
      go_enter Tryz.func60, Tryz.ntmps60
      go_wp2
      go_ret
      exact ⟨rfl, HB.out⟩
    · have d2 : decide (nu ≤ (0 : Int)) = false := decide_eq_false h2
      rw [decide_eq_true (show (nu < 0 ∨ 0 < nu) by omega)]
      go_enter Tryz.func60, Tryz.ntmps60
      go_wp2
      go_ret
      exact ⟨rfl, HB.out⟩
  · have d1 : decide ((0 : Int) ≤ nu) = false := decide_eq_false h1
    rw [decide_eq_true (show (nu < 0 ∨ 0 < nu) by omega)]
    go_enter Tryz.func60, Tryz.ntmps60
    go_wp2
    go_ret
    exact ⟨rfl, HB.out⟩
set_option maxHeartbeats 1000000 in
theorem r8_num5 (id pe fr tt : Int) (co : ByteArray) (nu : Int) (tx : ByteArray) (w : World) : Calls Tryz.prog 60 #[.agg #[.int .u32 id, .int .u32 pe, .int .i64 5, .int .i64 fr, .int .i64 tt, .string co, .int .i64 nu, .string tx]] w fun e w' => e = .returned (.bool (!decide (nu < lowN 5 ∨ highN 5 < nu))) ∧ Below w.heap.size w w' := by
  have e1 : lowN 5 = 0 := rfl
  have e2 : highN 5 = 0 := rfl
  rw [e1, e2]
  clear e1 e2
  have HB := Lib.hid (bAlloc w (.cells #[.int .u32 id, .int .u32 pe, .int .i64 5, .int .i64 fr, .int .i64 tt, .string co, .int .i64 nu, .string tx] 37))
  by_cases h1 : 0 ≤ nu
  · have d1 : decide ((0 : Int) ≤ nu) = true := decide_eq_true h1
    by_cases h2 : nu ≤ 0
    · have d2 : decide (nu ≤ (0 : Int)) = true := decide_eq_true h2
      rw [decide_eq_false (show ¬ (nu < 0 ∨ 0 < nu) by omega)]
      go_enter Tryz.func60, Tryz.ntmps60
      go_wp2
      go_ret
      exact ⟨rfl, HB.out⟩
    · have d2 : decide (nu ≤ (0 : Int)) = false := decide_eq_false h2
      rw [decide_eq_true (show (nu < 0 ∨ 0 < nu) by omega)]
      go_enter Tryz.func60, Tryz.ntmps60
      go_wp2
      go_ret
      exact ⟨rfl, HB.out⟩
  · have d1 : decide ((0 : Int) ≤ nu) = false := decide_eq_false h1
    rw [decide_eq_true (show (nu < 0 ∨ 0 < nu) by omega)]
    go_enter Tryz.func60, Tryz.ntmps60
    go_wp2
    go_ret
    exact ⟨rfl, HB.out⟩
set_option maxHeartbeats 1000000 in
theorem r8_num6 (id pe fr tt : Int) (co : ByteArray) (nu : Int) (tx : ByteArray) (w : World) : Calls Tryz.prog 60 #[.agg #[.int .u32 id, .int .u32 pe, .int .i64 6, .int .i64 fr, .int .i64 tt, .string co, .int .i64 nu, .string tx]] w fun e w' => e = .returned (.bool (!decide (nu < lowN 6 ∨ highN 6 < nu))) ∧ Below w.heap.size w w' := by
  have e1 : lowN 6 = 0 := rfl
  have e2 : highN 6 = 1440 := rfl
  rw [e1, e2]
  clear e1 e2
  have HB := Lib.hid (bAlloc w (.cells #[.int .u32 id, .int .u32 pe, .int .i64 6, .int .i64 fr, .int .i64 tt, .string co, .int .i64 nu, .string tx] 37))
  by_cases h1 : 0 ≤ nu
  · have d1 : decide ((0 : Int) ≤ nu) = true := decide_eq_true h1
    by_cases h2 : nu ≤ 1440
    · have d2 : decide (nu ≤ (1440 : Int)) = true := decide_eq_true h2
      rw [decide_eq_false (show ¬ (nu < 0 ∨ 1440 < nu) by omega)]
      go_enter Tryz.func60, Tryz.ntmps60
      go_wp2
      go_ret
      exact ⟨rfl, HB.out⟩
    · have d2 : decide (nu ≤ (1440 : Int)) = false := decide_eq_false h2
      rw [decide_eq_true (show (nu < 0 ∨ 1440 < nu) by omega)]
      go_enter Tryz.func60, Tryz.ntmps60
      go_wp2
      go_ret
      exact ⟨rfl, HB.out⟩
  · have d1 : decide ((0 : Int) ≤ nu) = false := decide_eq_false h1
    rw [decide_eq_true (show (nu < 0 ∨ 1440 < nu) by omega)]
    go_enter Tryz.func60, Tryz.ntmps60
    go_wp2
    go_ret
    exact ⟨rfl, HB.out⟩
set_option maxHeartbeats 1000000 in
theorem r8_num7 (id pe fr tt : Int) (co : ByteArray) (nu : Int) (tx : ByteArray) (w : World) : Calls Tryz.prog 60 #[.agg #[.int .u32 id, .int .u32 pe, .int .i64 7, .int .i64 fr, .int .i64 tt, .string co, .int .i64 nu, .string tx]] w fun e w' => e = .returned (.bool (!decide (nu < lowN 7 ∨ highN 7 < nu))) ∧ Below w.heap.size w w' := by
  have e1 : lowN 7 = 0 := rfl
  have e2 : highN 7 = 1000000 := rfl
  rw [e1, e2]
  clear e1 e2
  have HB := Lib.hid (bAlloc w (.cells #[.int .u32 id, .int .u32 pe, .int .i64 7, .int .i64 fr, .int .i64 tt, .string co, .int .i64 nu, .string tx] 37))
  by_cases h1 : 0 ≤ nu
  · have d1 : decide ((0 : Int) ≤ nu) = true := decide_eq_true h1
    by_cases h2 : nu ≤ 1000000
    · have d2 : decide (nu ≤ (1000000 : Int)) = true := decide_eq_true h2
      rw [decide_eq_false (show ¬ (nu < 0 ∨ 1000000 < nu) by omega)]
      go_enter Tryz.func60, Tryz.ntmps60
      go_wp2
      go_ret
      exact ⟨rfl, HB.out⟩
    · have d2 : decide (nu ≤ (1000000 : Int)) = false := decide_eq_false h2
      rw [decide_eq_true (show (nu < 0 ∨ 1000000 < nu) by omega)]
      go_enter Tryz.func60, Tryz.ntmps60
      go_wp2
      go_ret
      exact ⟨rfl, HB.out⟩
  · have d1 : decide ((0 : Int) ≤ nu) = false := decide_eq_false h1
    rw [decide_eq_true (show (nu < 0 ∨ 1000000 < nu) by omega)]
    go_enter Tryz.func60, Tryz.ntmps60
    go_wp2
    go_ret
    exact ⟨rfl, HB.out⟩
set_option maxHeartbeats 1000000 in
theorem r8_num8 (id pe fr tt : Int) (co : ByteArray) (nu : Int) (tx : ByteArray) (w : World) : Calls Tryz.prog 60 #[.agg #[.int .u32 id, .int .u32 pe, .int .i64 8, .int .i64 fr, .int .i64 tt, .string co, .int .i64 nu, .string tx]] w fun e w' => e = .returned (.bool (!decide (nu < lowN 8 ∨ highN 8 < nu))) ∧ Below w.heap.size w w' := by
  have e1 : lowN 8 = -1125899906842624 := rfl
  have e2 : highN 8 = 1125899906842624 := rfl
  rw [e1, e2]
  clear e1 e2
  have HB := Lib.hid (bAlloc w (.cells #[.int .u32 id, .int .u32 pe, .int .i64 8, .int .i64 fr, .int .i64 tt, .string co, .int .i64 nu, .string tx] 37))
  by_cases h1 : -1125899906842624 ≤ nu
  · have d1 : decide ((-1125899906842624 : Int) ≤ nu) = true := decide_eq_true h1
    by_cases h2 : nu ≤ 1125899906842624
    · have d2 : decide (nu ≤ (1125899906842624 : Int)) = true := decide_eq_true h2
      rw [decide_eq_false (show ¬ (nu < -1125899906842624 ∨ 1125899906842624 < nu) by omega)]
      go_enter Tryz.func60, Tryz.ntmps60
      go_wp2
      go_ret
      exact ⟨rfl, HB.out⟩
    · have d2 : decide (nu ≤ (1125899906842624 : Int)) = false := decide_eq_false h2
      rw [decide_eq_true (show (nu < -1125899906842624 ∨ 1125899906842624 < nu) by omega)]
      go_enter Tryz.func60, Tryz.ntmps60
      go_wp2
      go_ret
      exact ⟨rfl, HB.out⟩
  · have d1 : decide ((-1125899906842624 : Int) ≤ nu) = false := decide_eq_false h1
    rw [decide_eq_true (show (nu < -1125899906842624 ∨ 1125899906842624 < nu) by omega)]
    go_enter Tryz.func60, Tryz.ntmps60
    go_wp2
    go_ret
    exact ⟨rfl, HB.out⟩
set_option maxHeartbeats 1000000 in
theorem r8_num9 (id pe fr tt : Int) (co : ByteArray) (nu : Int) (tx : ByteArray) (w : World) : Calls Tryz.prog 60 #[.agg #[.int .u32 id, .int .u32 pe, .int .i64 9, .int .i64 fr, .int .i64 tt, .string co, .int .i64 nu, .string tx]] w fun e w' => e = .returned (.bool (!decide (nu < lowN 9 ∨ highN 9 < nu))) ∧ Below w.heap.size w w' := by
  have e1 : lowN 9 = 0 := rfl
  have e2 : highN 9 = 1125899906842624 := rfl
  rw [e1, e2]
  clear e1 e2
  have HB := Lib.hid (bAlloc w (.cells #[.int .u32 id, .int .u32 pe, .int .i64 9, .int .i64 fr, .int .i64 tt, .string co, .int .i64 nu, .string tx] 37))
  by_cases h1 : 0 ≤ nu
  · have d1 : decide ((0 : Int) ≤ nu) = true := decide_eq_true h1
    by_cases h2 : nu ≤ 1125899906842624
    · have d2 : decide (nu ≤ (1125899906842624 : Int)) = true := decide_eq_true h2
      rw [decide_eq_false (show ¬ (nu < 0 ∨ 1125899906842624 < nu) by omega)]
      go_enter Tryz.func60, Tryz.ntmps60
      go_wp2
      go_ret
      exact ⟨rfl, HB.out⟩
    · have d2 : decide (nu ≤ (1125899906842624 : Int)) = false := decide_eq_false h2
      rw [decide_eq_true (show (nu < 0 ∨ 1125899906842624 < nu) by omega)]
      go_enter Tryz.func60, Tryz.ntmps60
      go_wp2
      go_ret
      exact ⟨rfl, HB.out⟩
  · have d1 : decide ((0 : Int) ≤ nu) = false := decide_eq_false h1
    rw [decide_eq_true (show (nu < 0 ∨ 1125899906842624 < nu) by omega)]
    go_enter Tryz.func60, Tryz.ntmps60
    go_wp2
    go_ret
    exact ⟨rfl, HB.out⟩
set_option maxHeartbeats 1000000 in
theorem r8_num10 (id pe fr tt : Int) (co : ByteArray) (nu : Int) (tx : ByteArray) (w : World) : Calls Tryz.prog 60 #[.agg #[.int .u32 id, .int .u32 pe, .int .i64 10, .int .i64 fr, .int .i64 tt, .string co, .int .i64 nu, .string tx]] w fun e w' => e = .returned (.bool (!decide (nu < lowN 10 ∨ highN 10 < nu))) ∧ Below w.heap.size w w' := by
  have e1 : lowN 10 = 0 := rfl
  have e2 : highN 10 = 1125899906842624 := rfl
  rw [e1, e2]
  clear e1 e2
  have HB := Lib.hid (bAlloc w (.cells #[.int .u32 id, .int .u32 pe, .int .i64 10, .int .i64 fr, .int .i64 tt, .string co, .int .i64 nu, .string tx] 37))
  by_cases h1 : 0 ≤ nu
  · have d1 : decide ((0 : Int) ≤ nu) = true := decide_eq_true h1
    by_cases h2 : nu ≤ 1125899906842624
    · have d2 : decide (nu ≤ (1125899906842624 : Int)) = true := decide_eq_true h2
      rw [decide_eq_false (show ¬ (nu < 0 ∨ 1125899906842624 < nu) by omega)]
      go_enter Tryz.func60, Tryz.ntmps60
      go_wp2
      go_ret
      exact ⟨rfl, HB.out⟩
    · have d2 : decide (nu ≤ (1125899906842624 : Int)) = false := decide_eq_false h2
      rw [decide_eq_true (show (nu < 0 ∨ 1125899906842624 < nu) by omega)]
      go_enter Tryz.func60, Tryz.ntmps60
      go_wp2
      go_ret
      exact ⟨rfl, HB.out⟩
  · have d1 : decide ((0 : Int) ≤ nu) = false := decide_eq_false h1
    rw [decide_eq_true (show (nu < 0 ∨ 1125899906842624 < nu) by omega)]
    go_enter Tryz.func60, Tryz.ntmps60
    go_wp2
    go_ret
    exact ⟨rfl, HB.out⟩
set_option maxHeartbeats 1000000 in
theorem r8_num11 (id pe fr tt : Int) (co : ByteArray) (nu : Int) (tx : ByteArray) (w : World) : Calls Tryz.prog 60 #[.agg #[.int .u32 id, .int .u32 pe, .int .i64 11, .int .i64 fr, .int .i64 tt, .string co, .int .i64 nu, .string tx]] w fun e w' => e = .returned (.bool (!decide (nu < lowN 11 ∨ highN 11 < nu))) ∧ Below w.heap.size w w' := by
  have e1 : lowN 11 = 0 := rfl
  have e2 : highN 11 = 1125899906842624 := rfl
  rw [e1, e2]
  clear e1 e2
  have HB := Lib.hid (bAlloc w (.cells #[.int .u32 id, .int .u32 pe, .int .i64 11, .int .i64 fr, .int .i64 tt, .string co, .int .i64 nu, .string tx] 37))
  by_cases h1 : 0 ≤ nu
  · have d1 : decide ((0 : Int) ≤ nu) = true := decide_eq_true h1
    by_cases h2 : nu ≤ 1125899906842624
    · have d2 : decide (nu ≤ (1125899906842624 : Int)) = true := decide_eq_true h2
      rw [decide_eq_false (show ¬ (nu < 0 ∨ 1125899906842624 < nu) by omega)]
      go_enter Tryz.func60, Tryz.ntmps60
      go_wp2
      go_ret
      exact ⟨rfl, HB.out⟩
    · have d2 : decide (nu ≤ (1125899906842624 : Int)) = false := decide_eq_false h2
      rw [decide_eq_true (show (nu < 0 ∨ 1125899906842624 < nu) by omega)]
      go_enter Tryz.func60, Tryz.ntmps60
      go_wp2
      go_ret
      exact ⟨rfl, HB.out⟩
  · have d1 : decide ((0 : Int) ≤ nu) = false := decide_eq_false h1
    rw [decide_eq_true (show (nu < 0 ∨ 1125899906842624 < nu) by omega)]
    go_enter Tryz.func60, Tryz.ntmps60
    go_wp2
    go_ret
    exact ⟨rfl, HB.out⟩
set_option maxHeartbeats 1000000 in
theorem r8_num12 (id pe fr tt : Int) (co : ByteArray) (nu : Int) (tx : ByteArray) (w : World) : Calls Tryz.prog 60 #[.agg #[.int .u32 id, .int .u32 pe, .int .i64 12, .int .i64 fr, .int .i64 tt, .string co, .int .i64 nu, .string tx]] w fun e w' => e = .returned (.bool (!decide (nu < lowN 12 ∨ highN 12 < nu))) ∧ Below w.heap.size w w' := by
  have e1 : lowN 12 = 0 := rfl
  have e2 : highN 12 = 1125899906842624 := rfl
  rw [e1, e2]
  clear e1 e2
  have HB := Lib.hid (bAlloc w (.cells #[.int .u32 id, .int .u32 pe, .int .i64 12, .int .i64 fr, .int .i64 tt, .string co, .int .i64 nu, .string tx] 37))
  by_cases h1 : 0 ≤ nu
  · have d1 : decide ((0 : Int) ≤ nu) = true := decide_eq_true h1
    by_cases h2 : nu ≤ 1125899906842624
    · have d2 : decide (nu ≤ (1125899906842624 : Int)) = true := decide_eq_true h2
      rw [decide_eq_false (show ¬ (nu < 0 ∨ 1125899906842624 < nu) by omega)]
      go_enter Tryz.func60, Tryz.ntmps60
      go_wp2
      go_ret
      exact ⟨rfl, HB.out⟩
    · have d2 : decide (nu ≤ (1125899906842624 : Int)) = false := decide_eq_false h2
      rw [decide_eq_true (show (nu < 0 ∨ 1125899906842624 < nu) by omega)]
      go_enter Tryz.func60, Tryz.ntmps60
      go_wp2
      go_ret
      exact ⟨rfl, HB.out⟩
  · have d1 : decide ((0 : Int) ≤ nu) = false := decide_eq_false h1
    rw [decide_eq_true (show (nu < 0 ∨ 1125899906842624 < nu) by omega)]
    go_enter Tryz.func60, Tryz.ntmps60
    go_wp2
    go_ret
    exact ⟨rfl, HB.out⟩
set_option maxHeartbeats 1000000 in
theorem r8_num13 (id pe fr tt : Int) (co : ByteArray) (nu : Int) (tx : ByteArray) (w : World) : Calls Tryz.prog 60 #[.agg #[.int .u32 id, .int .u32 pe, .int .i64 13, .int .i64 fr, .int .i64 tt, .string co, .int .i64 nu, .string tx]] w fun e w' => e = .returned (.bool (!decide (nu < lowN 13 ∨ highN 13 < nu))) ∧ Below w.heap.size w w' := by
  have e1 : lowN 13 = 0 := rfl
  have e2 : highN 13 = 0 := rfl
  rw [e1, e2]
  clear e1 e2
  have HB := Lib.hid (bAlloc w (.cells #[.int .u32 id, .int .u32 pe, .int .i64 13, .int .i64 fr, .int .i64 tt, .string co, .int .i64 nu, .string tx] 37))
  by_cases h1 : 0 ≤ nu
  · have d1 : decide ((0 : Int) ≤ nu) = true := decide_eq_true h1
    by_cases h2 : nu ≤ 0
    · have d2 : decide (nu ≤ (0 : Int)) = true := decide_eq_true h2
      rw [decide_eq_false (show ¬ (nu < 0 ∨ 0 < nu) by omega)]
      go_enter Tryz.func60, Tryz.ntmps60
      go_wp2
      go_ret
      exact ⟨rfl, HB.out⟩
    · have d2 : decide (nu ≤ (0 : Int)) = false := decide_eq_false h2
      rw [decide_eq_true (show (nu < 0 ∨ 0 < nu) by omega)]
      go_enter Tryz.func60, Tryz.ntmps60
      go_wp2
      go_ret
      exact ⟨rfl, HB.out⟩
  · have d1 : decide ((0 : Int) ≤ nu) = false := decide_eq_false h1
    rw [decide_eq_true (show (nu < 0 ∨ 0 < nu) by omega)]
    go_enter Tryz.func60, Tryz.ntmps60
    go_wp2
    go_ret
    exact ⟨rfl, HB.out⟩
set_option maxHeartbeats 1000000 in
theorem r8_num14 (id pe fr tt : Int) (co : ByteArray) (nu : Int) (tx : ByteArray) (w : World) : Calls Tryz.prog 60 #[.agg #[.int .u32 id, .int .u32 pe, .int .i64 14, .int .i64 fr, .int .i64 tt, .string co, .int .i64 nu, .string tx]] w fun e w' => e = .returned (.bool (!decide (nu < lowN 14 ∨ highN 14 < nu))) ∧ Below w.heap.size w w' := by
  have e1 : lowN 14 = -1125899906842624 := rfl
  have e2 : highN 14 = 1125899906842624 := rfl
  rw [e1, e2]
  clear e1 e2
  have HB := Lib.hid (bAlloc w (.cells #[.int .u32 id, .int .u32 pe, .int .i64 14, .int .i64 fr, .int .i64 tt, .string co, .int .i64 nu, .string tx] 37))
  by_cases h1 : -1125899906842624 ≤ nu
  · have d1 : decide ((-1125899906842624 : Int) ≤ nu) = true := decide_eq_true h1
    by_cases h2 : nu ≤ 1125899906842624
    · have d2 : decide (nu ≤ (1125899906842624 : Int)) = true := decide_eq_true h2
      rw [decide_eq_false (show ¬ (nu < -1125899906842624 ∨ 1125899906842624 < nu) by omega)]
      go_enter Tryz.func60, Tryz.ntmps60
      go_wp2
      go_ret
      exact ⟨rfl, HB.out⟩
    · have d2 : decide (nu ≤ (1125899906842624 : Int)) = false := decide_eq_false h2
      rw [decide_eq_true (show (nu < -1125899906842624 ∨ 1125899906842624 < nu) by omega)]
      go_enter Tryz.func60, Tryz.ntmps60
      go_wp2
      go_ret
      exact ⟨rfl, HB.out⟩
  · have d1 : decide ((-1125899906842624 : Int) ≤ nu) = false := decide_eq_false h1
    rw [decide_eq_true (show (nu < -1125899906842624 ∨ 1125899906842624 < nu) by omega)]
    go_enter Tryz.func60, Tryz.ntmps60
    go_wp2
    go_ret
    exact ⟨rfl, HB.out⟩
set_option maxHeartbeats 1000000 in
theorem r8_num15 (id pe fr tt : Int) (co : ByteArray) (nu : Int) (tx : ByteArray) (w : World) : Calls Tryz.prog 60 #[.agg #[.int .u32 id, .int .u32 pe, .int .i64 15, .int .i64 fr, .int .i64 tt, .string co, .int .i64 nu, .string tx]] w fun e w' => e = .returned (.bool (!decide (nu < lowN 15 ∨ highN 15 < nu))) ∧ Below w.heap.size w w' := by
  have e1 : lowN 15 = 0 := rfl
  have e2 : highN 15 = 0 := rfl
  rw [e1, e2]
  clear e1 e2
  have HB := Lib.hid (bAlloc w (.cells #[.int .u32 id, .int .u32 pe, .int .i64 15, .int .i64 fr, .int .i64 tt, .string co, .int .i64 nu, .string tx] 37))
  by_cases h1 : 0 ≤ nu
  · have d1 : decide ((0 : Int) ≤ nu) = true := decide_eq_true h1
    by_cases h2 : nu ≤ 0
    · have d2 : decide (nu ≤ (0 : Int)) = true := decide_eq_true h2
      rw [decide_eq_false (show ¬ (nu < 0 ∨ 0 < nu) by omega)]
      go_enter Tryz.func60, Tryz.ntmps60
      go_wp2
      go_ret
      exact ⟨rfl, HB.out⟩
    · have d2 : decide (nu ≤ (0 : Int)) = false := decide_eq_false h2
      rw [decide_eq_true (show (nu < 0 ∨ 0 < nu) by omega)]
      go_enter Tryz.func60, Tryz.ntmps60
      go_wp2
      go_ret
      exact ⟨rfl, HB.out⟩
  · have d1 : decide ((0 : Int) ≤ nu) = false := decide_eq_false h1
    rw [decide_eq_true (show (nu < 0 ∨ 0 < nu) by omega)]
    go_enter Tryz.func60, Tryz.ntmps60
    go_wp2
    go_ret
    exact ⟨rfl, HB.out⟩
set_option maxHeartbeats 1000000 in
theorem r8_num16 (id pe fr tt : Int) (co : ByteArray) (nu : Int) (tx : ByteArray) (w : World) : Calls Tryz.prog 60 #[.agg #[.int .u32 id, .int .u32 pe, .int .i64 16, .int .i64 fr, .int .i64 tt, .string co, .int .i64 nu, .string tx]] w fun e w' => e = .returned (.bool (!decide (nu < lowN 16 ∨ highN 16 < nu))) ∧ Below w.heap.size w w' := by
  have e1 : lowN 16 = 0 := rfl
  have e2 : highN 16 = 0 := rfl
  rw [e1, e2]
  clear e1 e2
  have HB := Lib.hid (bAlloc w (.cells #[.int .u32 id, .int .u32 pe, .int .i64 16, .int .i64 fr, .int .i64 tt, .string co, .int .i64 nu, .string tx] 37))
  by_cases h1 : 0 ≤ nu
  · have d1 : decide ((0 : Int) ≤ nu) = true := decide_eq_true h1
    by_cases h2 : nu ≤ 0
    · have d2 : decide (nu ≤ (0 : Int)) = true := decide_eq_true h2
      rw [decide_eq_false (show ¬ (nu < 0 ∨ 0 < nu) by omega)]
      go_enter Tryz.func60, Tryz.ntmps60
      go_wp2
      go_ret
      exact ⟨rfl, HB.out⟩
    · have d2 : decide (nu ≤ (0 : Int)) = false := decide_eq_false h2
      rw [decide_eq_true (show (nu < 0 ∨ 0 < nu) by omega)]
      go_enter Tryz.func60, Tryz.ntmps60
      go_wp2
      go_ret
      exact ⟨rfl, HB.out⟩
  · have d1 : decide ((0 : Int) ≤ nu) = false := decide_eq_false h1
    rw [decide_eq_true (show (nu < 0 ∨ 0 < nu) by omega)]
    go_enter Tryz.func60, Tryz.ntmps60
    go_wp2
    go_ret
    exact ⟨rfl, HB.out⟩
set_option maxHeartbeats 1000000 in
theorem r8_num17 (id pe fr tt : Int) (co : ByteArray) (nu : Int) (tx : ByteArray) (w : World) : Calls Tryz.prog 60 #[.agg #[.int .u32 id, .int .u32 pe, .int .i64 17, .int .i64 fr, .int .i64 tt, .string co, .int .i64 nu, .string tx]] w fun e w' => e = .returned (.bool (!decide (nu < lowN 17 ∨ highN 17 < nu))) ∧ Below w.heap.size w w' := by
  have e1 : lowN 17 = 0 := rfl
  have e2 : highN 17 = 100000 := rfl
  rw [e1, e2]
  clear e1 e2
  have HB := Lib.hid (bAlloc w (.cells #[.int .u32 id, .int .u32 pe, .int .i64 17, .int .i64 fr, .int .i64 tt, .string co, .int .i64 nu, .string tx] 37))
  by_cases h1 : 0 ≤ nu
  · have d1 : decide ((0 : Int) ≤ nu) = true := decide_eq_true h1
    by_cases h2 : nu ≤ 100000
    · have d2 : decide (nu ≤ (100000 : Int)) = true := decide_eq_true h2
      rw [decide_eq_false (show ¬ (nu < 0 ∨ 100000 < nu) by omega)]
      go_enter Tryz.func60, Tryz.ntmps60
      go_wp2
      go_ret
      exact ⟨rfl, HB.out⟩
    · have d2 : decide (nu ≤ (100000 : Int)) = false := decide_eq_false h2
      rw [decide_eq_true (show (nu < 0 ∨ 100000 < nu) by omega)]
      go_enter Tryz.func60, Tryz.ntmps60
      go_wp2
      go_ret
      exact ⟨rfl, HB.out⟩
  · have d1 : decide ((0 : Int) ≤ nu) = false := decide_eq_false h1
    rw [decide_eq_true (show (nu < 0 ∨ 100000 < nu) by omega)]
    go_enter Tryz.func60, Tryz.ntmps60
    go_wp2
    go_ret
    exact ⟨rfl, HB.out⟩
set_option maxHeartbeats 1000000 in
theorem r8_num18 (id pe fr tt : Int) (co : ByteArray) (nu : Int) (tx : ByteArray) (w : World) : Calls Tryz.prog 60 #[.agg #[.int .u32 id, .int .u32 pe, .int .i64 18, .int .i64 fr, .int .i64 tt, .string co, .int .i64 nu, .string tx]] w fun e w' => e = .returned (.bool (!decide (nu < lowN 18 ∨ highN 18 < nu))) ∧ Below w.heap.size w w' := by
  have e1 : lowN 18 = 1 := rfl
  have e2 : highN 18 = 4096 := rfl
  rw [e1, e2]
  clear e1 e2
  have HB := Lib.hid (bAlloc w (.cells #[.int .u32 id, .int .u32 pe, .int .i64 18, .int .i64 fr, .int .i64 tt, .string co, .int .i64 nu, .string tx] 37))
  by_cases h1 : 1 ≤ nu
  · have d1 : decide ((1 : Int) ≤ nu) = true := decide_eq_true h1
    by_cases h2 : nu ≤ 4096
    · have d2 : decide (nu ≤ (4096 : Int)) = true := decide_eq_true h2
      rw [decide_eq_false (show ¬ (nu < 1 ∨ 4096 < nu) by omega)]
      go_enter Tryz.func60, Tryz.ntmps60
      go_wp2
      go_ret
      exact ⟨rfl, HB.out⟩
    · have d2 : decide (nu ≤ (4096 : Int)) = false := decide_eq_false h2
      rw [decide_eq_true (show (nu < 1 ∨ 4096 < nu) by omega)]
      go_enter Tryz.func60, Tryz.ntmps60
      go_wp2
      go_ret
      exact ⟨rfl, HB.out⟩
  · have d1 : decide ((1 : Int) ≤ nu) = false := decide_eq_false h1
    rw [decide_eq_true (show (nu < 1 ∨ 4096 < nu) by omega)]
    go_enter Tryz.func60, Tryz.ntmps60
    go_wp2
    go_ret
    exact ⟨rfl, HB.out⟩
end Go.Proofs.YtdpejolpjhlibaaGreatDoor
