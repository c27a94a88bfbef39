import Derived.Test.YtlgoaohklggcdaaGreatDoorAbe
/- The document's sum of absences. -/
namespace Go.Proofs.YtlgoaohklggcdaaGreatDoor
open Go.RowKit Go.Sort

def fSum (l : List Ab) (k : Int) (g : Int → Int) (d : Int) : Int := if awayB l k d = true then g d else 0
def awayOne (x : Ab) (k d : Int) : Bool := decide (x.ki = k) && decide (x.fr ≤ d) && decide (d < x.to)
theorem away_take {l : List Ab} {i : Nat} {x : Ab} (k d : Int) (h : l[i]? = some x) : awayB (l.take (i + 1)) k d = (awayB (l.take i) k d || awayOne x k d) := by
  unfold awayB awayOne
  rw [List.take_add_one, h, Option.toList_some, List.any_append]
  simp
/-- What a day brings. -/
theorem day_brings (h : Nat → Int) (D : List Int) (l : List Ab) (k d : Int) : fSum l k (gMin h D) d = (if (awayB l k d && decide (chkP h D = 0) && decide (0 < onR h D d)) = true then onR h D d else 0) ∧ fSum l k (gDay h D) d = (if (awayB l k d && decide (chkP h D = 0) && decide (0 < onR h D d)) = true then 1 else 0) := by
  unfold fSum gMin gDay inCal onR okP2
  cases ha : awayB l k d with
  | false => simp
  | true =>
    by_cases hc : chkP h D = 0
    · have hb := onV_bd (chkP_ok hc).1 D d
      cases hcal : calB d with
      | false => simp
      | true =>
        simp only [hc, decide_true, Bool.and_true, if_true, Bool.true_and]
        by_cases h0 : onV h D d = 0
        · unfold oneD; simp [h0]
        · have : 0 < onV h D d := by omega
          unfold oneD
          simp [h0, this]
    · simp [hc]
set_option maxHeartbeats 4000000 in
set_option maxRecDepth 100000 in
theorem r18_Sum (l : List Ab) (A : Option Addr) (c : Nat) (h : Nat → Int) (D : List Int) (AD : Option Addr) (cD : Nat) (F U k : Int) (w : World) (hl : l.length ≤ 100000) (hs : Sl encAb 5 w w.heap.size A l) (hn : D.length ≤ 9223372036854775807) (hsD : Sl encDd 1 w w.heap.size AD D) (hF : -4398046511104 ≤ F) (hU : U ≤ 4398046511104) (hUF : U - F ≤ 1000000) :
    Calls Tryz.prog 33 #[.slice A l.length c, .agg #[.int .i64 (h 0), .int .i64 (h 1), .int .i64 (h 2), .int .i64 (h 3), .int .i64 (h 4), .int .i64 (h 5), .int .i64 (h 6)], .slice AD D.length cD, .agg #[.int .i64 F, .int .i64 U], .int .i64 k] w fun e w' => e = .returned (.tuple #[.int .i64 (SU (fSum l k (gMin h D)) F U), .int .i64 (SU (fSum l k (gDay h D)) F U)]) ∧ Below w.heap.size w w' := by
  obtain ⟨pb, hpb⟩ : ∃ z, w.heap.size = z := ⟨_, rfl⟩
  obtain ⟨sb, hsb⟩ : ∃ z, pb + 1 = z := ⟨_, rfl⟩
  obtain ⟨w2, hw2⟩ : ∃ z, (w.alloc (.cells #[.int .i64 (h 0), .int .i64 (h 1), .int .i64 (h 2), .int .i64 (h 3), .int .i64 (h 4), .int .i64 (h 5), .int .i64 (h 6)] 47)).alloc (.cells #[.int .i64 F, .int .i64 U] 31) = z := ⟨_, rfl⟩
  obtain ⟨k1, k2, hb2⟩ := bkk2 w _ _ _ _ hpb hsb hw2
  have HB2 := Lib.hid hb2
  have HS2 := Lib.hid (sl_bel hs hb2)
  have HKC : Hid (∀ W, Below w2.heap.size w2 W → (W.cell? ⟨pb, 0, none⟩ = some (.int .i64 (h 0)) ∧ W.cell? ⟨pb, 1, none⟩ = some (.int .i64 (h 1)) ∧ W.cell? ⟨pb, 2, none⟩ = some (.int .i64 (h 2)) ∧ W.cell? ⟨pb, 3, none⟩ = some (.int .i64 (h 3)) ∧ W.cell? ⟨pb, 4, none⟩ = some (.int .i64 (h 4)) ∧ W.cell? ⟨pb, 5, none⟩ = some (.int .i64 (h 5)) ∧ W.cell? ⟨pb, 6, none⟩ = some (.int .i64 (h 6))) ∧ W.cell? ⟨sb, 0, none⟩ = some (.int .i64 F) ∧ W.cell? ⟨sb, 1, none⟩ = some (.int .i64 U)) := Lib.hid fun W hW =>
    ⟨⟨bCell hW (k1.cell 0), bCell hW (k1.cell 1), bCell hW (k1.cell 2), bCell hW (k1.cell 3), bCell hW (k1.cell 4), bCell hW (k1.cell 5), bCell hW (k1.cell 6)⟩, bCell hW (k2.cell 0), bCell hW (k2.cell 1)⟩
  have HON : Hid (∀ d W, Below w2.heap.size w2 W → Calls Tryz.prog 74 #[.agg #[.int .i64 (h 0), .int .i64 (h 1), .int .i64 (h 2), .int .i64 (h 3), .int .i64 (h 4), .int .i64 (h 5), .int .i64 (h 6)], .slice AD D.length cD, .int .i64 d] W fun e w' => e = .returned (.int .i64 (onR h D d)) ∧ Below W.heap.size W w') := Lib.hid fun d W hW => r7_On h D AD cD d W hn (sl_bel hsD (bTrans hb2 hW))
  have HCK : Hid (∀ W, Below w2.heap.size w2 W → Calls Tryz.prog 75 #[.agg #[.int .i64 (h 0), .int .i64 (h 1), .int .i64 (h 2), .int .i64 (h 3), .int .i64 (h 4), .int .i64 (h 5), .int .i64 (h 6)], .slice AD D.length cD] W fun e w' => e = .returned (.int .i64 (chkP h D)) ∧ Below W.heap.size W w') := Lib.hid fun W hW => r7_Check h D AD cD W hn (sl_bel hsD (bTrans hb2 hW))
  have HDB : Hid (∀ d, fSum l k (gMin h D) d = (if (awayB l k d && decide (chkP h D = 0) && decide (0 < onR h D d)) = true then onR h D d else 0) ∧ fSum l k (gDay h D) d = (if (awayB l k d && decide (chkP h D = 0) && decide (0 < onR h D d)) = true then 1 else 0)) := Lib.hid fun d => day_brings h D l k d
  have HBD : Hid (∀ d, (0 ≤ fSum l k (gMin h D) d ∧ fSum l k (gMin h D) d ≤ 1440) ∧ (0 ≤ fSum l k (gDay h D) d ∧ fSum l k (gDay h D) d ≤ 1)) := Lib.hid fun d => by
    have h1 : chkP h D = 0 → 0 ≤ onV h D d ∧ onV h D d ≤ 1440 := fun hc => onV_bd (chkP_ok hc).1 D d
    have h2 := oneD_bd (onV h D) d
    unfold fSum gMin gDay inCal okP2
    by_cases hc : chkP h D = 0
    · have := h1 hc
      constructor <;> (split <;> (try split) <;> omega)
    · simp [hc]
  obtain ⟨gM, hgM⟩ : ∃ g, fSum l k (gMin h D) = g := ⟨_, rfl⟩
  obtain ⟨gN, hgN⟩ : ∃ g, fSum l k (gDay h D) = g := ⟨_, rfl⟩
  obtain ⟨ce, hce⟩ : ∃ ce, chkP h D = ce := ⟨_, rfl⟩
  obtain ⟨on, hon⟩ : ∃ f, onR h D = f := ⟨_, rfl⟩
  have HE := Lib.hid (And.intro hpb (And.intro hsb hw2))
  rw [hgM] at HDB HBD ⊢
  rw [hgN] at HDB HBD ⊢
  rw [hce] at HDB HCK
  rw [hon] at HDB HON
  clear hs hb2 hw2 hpb hsb k1 k2 hgM hgN hce hon hsD hn
  obtain ⟨_, S0, S1⟩ := HKC.out _ (Below.refl _ _)
  go_enter Tryz.func33, Tryz.ntmps33
  go_upto_region 1 with fail
  rw [HE.out.1, HE.out.2.1, HE.out.2.2]
  clear HE
  go_wp2
  clear S0 S1
  go_loopw [12, 13, 14] (fun mv nv dv wr => ∃ j : Nat, (j = 0 ∨ F + j ≤ U) ∧ dv = .int .i64 (F + j) ∧ (∃ x y : Int, mv = .int .i64 x ∧ nv = .int .i64 y ∧ Hid (sumD gM F j = x ∧ sumD gN F j = y)) ∧ Hid (Below w2.heap.size w2 wr)) (fun _ _ dv _ => (U - intOf dv).toNat)
  case atStart => exact ⟨0, .inl rfl, by first | rfl | (congr 1; omega) | (simp; done), ⟨0, 0, rfl, rfl, Lib.hid ⟨rfl, rfl⟩⟩, Lib.hid (Below.refl _ _)⟩
  case round =>
    obtain ⟨j, hj, rfl, ⟨x, y, rfl, rfl, HXY⟩, HB⟩ := hrel
    obtain ⟨wo, hwo⟩ : ∃ x : World, x = wr := ⟨_, rfl⟩
    subst hwo
    obtain ⟨⟨K0, K1, K2, K3, K4, K5, K6⟩, S0, S1⟩ := HKC.out _ HB.out
    have hxy : (0 ≤ x ∧ x ≤ 1440 * j) ∧ (0 ≤ y ∧ y ≤ 1 * j) := by
      rw [← HXY.out.1, ← HXY.out.2]
      exact ⟨sumD_bd (fun d => (HBD.out d).1) F j, sumD_bd (fun d => (HBD.out d).2) F j⟩
    obtain ⟨d, hd⟩ : ∃ d, F + j = d := ⟨_, rfl⟩
    have HSX : Hid (sumD gM F (j + 1) = x + gM d ∧ sumD gN F (j + 1) = y + gN d) := Lib.hid ⟨by rw [sumD, HXY.out.1, hd], by rw [sumD, HXY.out.2, hd]⟩
    have HD1 : Hid (F + ((j + 1 : Nat) : Int) = d + 1) := Lib.hid (by omega)
    rw [hd]
    by_cases hlt : d < U
    · have hjb : (j : Int) ≤ 1000000 := by omega
      have hdb : -4398046511104 ≤ d ∧ d ≤ 4398046511104 := by omega
      have HDD := Lib.hid (HDB.out d)
      clear hd
      go_upto_region 7 with fail
      go_loopw [15, 16] (fun av iv wr => ∃ i : Nat, i ≤ l.length ∧ iv = .int .i64 i ∧ (∃ b : Bool, av = .bool b ∧ Hid (awayB (l.take i) k d = b)) ∧ wo = wr) (fun _ iv _ => l.length - (intOf iv).toNat)
      case atStart => exact ⟨0, Nat.zero_le _, rfl, ⟨false, rfl, Lib.hid rfl⟩, by first | trivial | rfl⟩
      case round =>
        obtain ⟨i, hi, rfl, ⟨b, rfl, HA⟩, hww⟩ := hrel
        subst hww
        by_cases hil : i < l.length
        · obtain ⟨⟨xf, xt, xk, xp, xn⟩, hx⟩ : ∃ x, l[i]? = some x := ⟨_, List.getElem?_eq_getElem hil⟩
          obtain ⟨g, o, rfl, _, hat⟩ := HS2.out (by intro h; simp [h] at hx)
          have C0 : wo.cell? ⟨g, o + i * 5, none⟩ = some (.int .i64 xf) := bCell HB.out (hat i _ hx 0 _ rfl)
          have C1 : wo.cell? ⟨g, o + i * 5 + 1, none⟩ = some (.int .i64 xt) := bCell HB.out (hat i _ hx 1 _ rfl)
          have C2 : wo.cell? ⟨g, o + i * 5 + 2, none⟩ = some (.int .i64 xk) := bCell HB.out (hat i _ hx 2 _ rfl)
          have HAN : Hid (awayB (l.take (i + 1)) k d = (b || (decide (xk = k) && decide (xf ≤ d) && decide (d < xt)))) := Lib.hid (by rw [away_take k d hx, HA.out]; rfl)
          have hil2 : (i : Int) < (l.length : Int) := by omega
          clear hx hat HA
          cases b with
          | true =>
            have HA2 : Hid (awayB (l.take (i + 1)) k d = true) := Lib.hid (by rw [HAN.out]; rfl)
            go_wp2
            exact ⟨⟨i + 1, by omega, by go_num, ⟨true, rfl, HA2⟩, by first | trivial | rfl⟩, by simp [intOf]; omega⟩
          | false =>
            by_cases hk1 : xk = k
            · by_cases hk2 : xf ≤ d
              · by_cases hk3 : d < xt
                · have HA2 : Hid (awayB (l.take (i + 1)) k d = true) := Lib.hid (by rw [HAN.out, decide_eq_true hk1, decide_eq_true hk2, decide_eq_true hk3]; rfl)
                  subst hk1
                  go_wp2
                  exact ⟨⟨i + 1, by omega, by go_num, ⟨true, by first | rfl | simp [hk3], HA2⟩, by first | trivial | rfl⟩, by simp [intOf]; omega⟩
                · have HA2 : Hid (awayB (l.take (i + 1)) k d = false) := Lib.hid (by rw [HAN.out, decide_eq_false hk3]; simp)
                  subst hk1
                  go_wp2
                  exact ⟨⟨i + 1, by omega, by go_num, ⟨false, by first | rfl | (simp; omega), HA2⟩, by first | trivial | rfl⟩, by simp [intOf]; omega⟩
              · have HA2 : Hid (awayB (l.take (i + 1)) k d = false) := Lib.hid (by rw [HAN.out, decide_eq_false hk2]; simp)
                subst hk1
                go_wp2
                exact ⟨⟨i + 1, by omega, by go_num, ⟨false, by first | rfl | (simp; omega), HA2⟩, by first | trivial | rfl⟩, by simp [intOf]; omega⟩
            · have HA2 : Hid (awayB (l.take (i + 1)) k d = false) := Lib.hid (by rw [HAN.out, decide_eq_false hk1]; rfl)
              have hkq : (xk == k) = false := beq_eq_false_iff_ne.2 hk1
              go_wp2
              exact ⟨⟨i + 1, by omega, by go_num, ⟨false, rfl, HA2⟩, by first | trivial | rfl⟩, by simp [intOf]; omega⟩
        · obtain rfl : i = l.length := by omega
          have HA2 : Hid (awayB l k d = b) := Lib.hid (by have h := HA.out; rwa [List.take_length] at h)
          rw [HA2.out] at HDD
          have HOD := Lib.hid (HON.out d _ HB.out)
          obtain ⟨m, hm⟩ : ∃ m, on d = m := ⟨_, rfl⟩
          rw [hm] at HOD HDD
          have hil2 : ¬ (l.length : Int) < (l.length : Int) := by omega
          clear hil HA hm
          have HG : Hid (0 ≤ gM d ∧ gM d ≤ 1440) := Lib.hid (HBD.out d).1
          go_wp2_with fail
          refine HOD.out.mono ?_
          rintro e wn ⟨rfl, hbn⟩
          have HBN : Hid (Below w2.heap.size w2 wn) := Lib.hid (bTrans HB.out hbn)
          clear hbn K0 K1 K2 K3 K4 K5 K6 S0 S1 HOD
          obtain ⟨⟨K0, K1, K2, K3, K4, K5, K6⟩, S0, S1⟩ := HKC.out _ HBN.out
          cases b with
          | false =>
            have HS3 : Hid (sumD gM F (j + 1) = x ∧ sumD gN F (j + 1) = y) := Lib.hid ⟨by rw [HSX.out.1, HDD.out.1]; simp, by rw [HSX.out.2, HDD.out.2]; simp⟩
            go_wp2
            exact ⟨⟨j + 1, .inr (by rw [HD1.out]; omega), by rw [HD1.out], ⟨x, y, rfl, rfl, HS3⟩, HBN⟩, by simp [intOf]; omega⟩
          | true =>
            have HCK2 := Lib.hid (HCK.out _ HBN.out)
            go_wp2_with fail
            refine HCK2.out.mono ?_
            rintro e wm ⟨rfl, hbm⟩
            have HBM : Hid (Below w2.heap.size w2 wm) := Lib.hid (bTrans HBN.out hbm)
            clear hbm K0 K1 K2 K3 K4 K5 K6 S0 S1 HCK2
            by_cases hc0 : ce = 0
            · by_cases hm0 : 0 < m
              · have HS3 : Hid (sumD gM F (j + 1) = x + m ∧ sumD gN F (j + 1) = y + 1) := Lib.hid ⟨by rw [HSX.out.1, HDD.out.1, decide_eq_true hc0, decide_eq_true hm0]; rfl, by rw [HSX.out.2, HDD.out.2, decide_eq_true hc0, decide_eq_true hm0]; rfl⟩
                have hmb : m ≤ 1440 := by
                  have h1 := HG.out.2
                  rw [HDD.out.1, decide_eq_true hc0, decide_eq_true hm0] at h1
                  simpa using h1
                subst hc0
                go_wp2
                exact ⟨⟨j + 1, .inr (by rw [HD1.out]; omega), by rw [HD1.out], ⟨x + m, y + 1, by go_num, by go_num, HS3⟩, HBM⟩, by simp [intOf]; omega⟩
              · have HS3 : Hid (sumD gM F (j + 1) = x ∧ sumD gN F (j + 1) = y) := Lib.hid ⟨by rw [HSX.out.1, HDD.out.1, decide_eq_false hm0]; simp, by rw [HSX.out.2, HDD.out.2, decide_eq_false hm0]; simp⟩
                subst hc0
                go_wp2
                exact ⟨⟨j + 1, .inr (by rw [HD1.out]; omega), by rw [HD1.out], ⟨x, y, rfl, rfl, HS3⟩, HBM⟩, by simp [intOf]; omega⟩
            · have HS3 : Hid (sumD gM F (j + 1) = x ∧ sumD gN F (j + 1) = y) := Lib.hid ⟨by rw [HSX.out.1, HDD.out.1, decide_eq_false hc0]; simp, by rw [HSX.out.2, HDD.out.2, decide_eq_false hc0]; simp⟩
              have hcq : (ce == 0) = false := beq_eq_false_iff_ne.2 hc0
              go_wp2
              exact ⟨⟨j + 1, .inr (by rw [HD1.out]; omega), by rw [HD1.out], ⟨x, y, rfl, rfl, HS3⟩, HBM⟩, by simp [intOf]; omega⟩
    · have HF : Hid (SU gM F U = x ∧ SU gN F U = y ∧ Below w.heap.size w wo) := Lib.hid (by
        have hjj : (U - F).toNat = j := by omega
        unfold SU
        rw [hjj]
        exact ⟨HXY.out.1, HXY.out.2, bTrans HB2.out HB.out⟩)
      clear hd
      go_wp2
      go_ret2
      exact ⟨by rw [HF.out.1, HF.out.2.1]; rfl, HF.out.2.2⟩
end Go.Proofs.YtlgoaohklggcdaaGreatDoor
