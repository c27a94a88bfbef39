import Derived.Test.YtlgoaohklggcdaaGreatDoorWkb
import Derived.WalkMore
/- week.Pattern: worked, Minutes, Days. -/
namespace Go.Proofs.YtlgoaohklggcdaaGreatDoor
open Go.RowKit Go.Sort

def eq7w (f g : Nat → Int) : Bool := decide (f 0 = g 0 ∧ f 1 = g 1 ∧ f 2 = g 2 ∧ f 3 = g 3 ∧ f 4 = g 4 ∧ f 5 = g 5 ∧ f 6 = g 6)
theorem tabW {w w' : World} (hT : Tab w) (hb : Below w.heap.size w w') : Tab w' := ⟨Nat.lt_of_lt_of_le hT.1 hb.size, fun i hi => bCell hb (hT.2 i hi)⟩
def sumD (f : Int → Int) (F : Int) : Nat → Int
  | 0 => 0
  | n + 1 => sumD f F n + f (F + n)
def oneD (f : Int → Int) (d : Int) : Int := if f d = 0 then 0 else 1
theorem sumD_bd {f : Int → Int} {m : Int} (h : ∀ d, 0 ≤ f d ∧ f d ≤ m) (F : Int) : ∀ n : Nat, 0 ≤ sumD f F n ∧ sumD f F n ≤ m * n
  | 0 => by simp [sumD]
  | n + 1 => by
    have h1 := sumD_bd h F n
    have h2 := h (F + n)
    rw [sumD, Int.natCast_add, Int.mul_add]
    omega
theorem sumD_zero {f : Int → Int} (h : ∀ d, f d = 0) (F : Int) : ∀ n : Nat, sumD f F n = 0
  | 0 => rfl
  | n + 1 => by rw [sumD, sumD_zero h F n, h]; rfl
theorem oneD_bd (f : Int → Int) (d : Int) : 0 ≤ oneD f d ∧ oneD f d ≤ 1 := by unfold oneD; split <;> omega
def loD (F : Int) : Int := max F (-25567)
def hiD (U : Int) : Int := min U 84006
def lenD (F U : Int) : Nat := (hiD U - loD F).toNat
def wkM (h : Nat → Int) (D : List Int) (F U : Int) : Int := if chkP h D = 0 then sumD (onV h D) (loD F) (lenD F U) else 0
def wkN (h : Nat → Int) (D : List Int) (F U : Int) : Int := if chkP h D = 0 then sumD (oneD (onV h D)) (loD F) (lenD F U) else 0
theorem chkP_ok {h : Nat → Int} {D : List Int} (hc : chkP h D = 0) : rightB h = true ∧ D.length ≤ 4096 ∧ D.Pairwise (· < ·) ∧ ∀ d ∈ D, -25567 ≤ d ∧ d ≤ 84005 := by
  unfold chkP at hc
  by_cases h1 : rightB h = false
  · rw [if_pos h1] at hc; simp at hc
  · rw [if_neg h1] at hc
    by_cases h2 : 4096 < D.length
    · rw [if_pos h2] at hc; simp at hc
    · rw [if_neg h2] at hc
      have h3 := frE_ok hc
      exact ⟨by simpa using h1, by omega, h3.1, h3.2.1⟩
theorem onV_zero {h : Nat → Int} (D : List Int) (d : Int) (hz : eq7w h zero7 = true) : onV h D d = 0 := by
  unfold onV
  split
  · rfl
  · have hz := of_decide_eq_true hz
    obtain ⟨k, hk⟩ : ∃ k, ((d + 25567) % 7).toNat = k := ⟨_, rfl⟩
    have hk7 : k = 0 ∨ k = 1 ∨ k = 2 ∨ k = 3 ∨ k = 4 ∨ k = 5 ∨ k = 6 := by omega
    rw [hk]
    unfold zero7 at hz
    rcases hk7 with rfl | rfl | rfl | rfl | rfl | rfl | rfl <;> omega
set_option maxHeartbeats 4000000 in
set_option maxRecDepth 100000 in
theorem eqW0 (f g : Nat → Int) (w : World) : (Op.equalIn 10000 48 (.agg #[.int .i64 (f 0), .int .i64 (f 1), .int .i64 (f 2), .int .i64 (f 3), .int .i64 (f 4), .int .i64 (f 5), .int .i64 (f 6)]) (.agg #[.int .i64 (g 0), .int .i64 (g 1), .int .i64 (g 2), .int .i64 (g 3), .int .i64 (g 4), .int .i64 (g 5), .int .i64 (g 6)])).run Tryz.prog w = .ok (eq7w f g) w := by
  have u3 := Tryz.underlying3
  have a3 := Tryz.isAgg3
  have z3 := Tryz.sizeOf3
  rw [show (10000 : Nat) = 9999 + 1 from rfl, Op.equalIn]
  simp only [Sem.run_bind, run_underlying Tryz.underlying48, Result.andThen_ok]
  simp only [Std.Legacy.Range.forIn_eq_forIn_range', Std.Legacy.Range.size, Nat.sub_zero, Nat.add_sub_cancel, Nat.div_one, List.range'_succ, List.range'_zero, List.forIn_cons, List.forIn_nil]
  go_simp
  unfold eq7w
  by_cases h0 : f 0 = g 0 <;> by_cases h1 : f 1 = g 1 <;> by_cases h2 : f 2 = g 2 <;> by_cases h3 : f 3 = g 3 <;> by_cases h4 : f 4 = g 4 <;> by_cases h5 : f 5 = g 5 <;> by_cases h6 : f 6 = g 6 <;> simp [h0, h1, h2, h3, h4, h5, h6]
set_option maxHeartbeats 4000000 in
set_option maxRecDepth 100000 in
theorem wk_worked (h : Nat → Int) (D : List Int) (A : Option Addr) (c : Nat) (F U : Int) (w : World) (hn : D.length ≤ 9223372036854775807) (hd : ∀ d ∈ D, -9223372036854775808 ≤ d ∧ d ≤ 9223372036854775807) (hs : Sl encDd 1 w w.heap.size A D) (hT : Tab w) :
    Calls Tryz.prog 84 #[.agg #[.int .i64 (h 0), .int .i64 (h 1), .int .i64 (h 2), .int .i64 (h 3), .int .i64 (h 4), .int .i64 (h 5), .int .i64 (h 6), .slice A D.length c], .agg #[.int .i64 F, .int .i64 U]] w fun e w' => e = .returned (.tuple #[.int .i64 (wkM h D F U), .int .i64 (wkN h D F U)]) ∧ Below w.heap.size w w' := by
  obtain ⟨pb, hpb⟩ : ∃ z, w.heap.size = z := ⟨_, rfl⟩
  obtain ⟨sb, hsb⟩ : ∃ z, pb + 1 = z := ⟨_, rfl⟩
  obtain ⟨w2, hw2⟩ : ∃ z, (w.alloc (.cells #[.int .i64 (h 0), .int .i64 (h 1), .int .i64 (h 2), .int .i64 (h 3), .int .i64 (h 4), .int .i64 (h 5), .int .i64 (h 6), .slice A D.length c] 85)).alloc (.cells #[.int .i64 F, .int .i64 U] 31) = z := ⟨_, rfl⟩
  obtain ⟨k1, k2, hb2⟩ := bkk2 w _ _ _ _ hpb hsb hw2
  have HB2 := Lib.hid hb2
  have HS2 := Lib.hid (sl_bel hs hb2)
  have hT2 := tabW hT hb2
  have HCK := Lib.hid (wk_Check h D A c w2 hn HS2.out hd)
  have HKC : Hid (∀ W, Below w2.heap.size w2 W → (W.cell? ⟨pb, 0, none⟩ = some (.int .i64 (h 0)) ∧ W.cell? ⟨pb, 1, none⟩ = some (.int .i64 (h 1)) ∧ W.cell? ⟨pb, 2, none⟩ = some (.int .i64 (h 2)) ∧ W.cell? ⟨pb, 3, none⟩ = some (.int .i64 (h 3)) ∧ W.cell? ⟨pb, 4, none⟩ = some (.int .i64 (h 4)) ∧ W.cell? ⟨pb, 5, none⟩ = some (.int .i64 (h 5)) ∧ W.cell? ⟨pb, 6, none⟩ = some (.int .i64 (h 6)) ∧ W.cell? ⟨pb, 7, none⟩ = some (.slice A D.length c)) ∧ W.cell? ⟨sb, 0, none⟩ = some (.int .i64 F) ∧ W.cell? ⟨sb, 1, none⟩ = some (.int .i64 U)) := Lib.hid fun W hW =>
    ⟨⟨bCell hW (k1.cell 0), bCell hW (k1.cell 1), bCell hW (k1.cell 2), bCell hW (k1.cell 3), bCell hW (k1.cell 4), bCell hW (k1.cell 5), bCell hW (k1.cell 6), bCell hW (k1.cell 7)⟩, bCell hW (k2.cell 0), bCell hW (k2.cell 1)⟩
  have e1 : Cal.num 1900 1 1 - 25567 = -25567 := by decide
  have e2 : Cal.num 2199 12 31 - 25567 = 84005 := by decide
  have HO1 : Hid (∀ W, Below w2.heap.size w2 W → Calls Tryz.prog 97 #[.agg #[.int .i64 1900, .int .i64 1, .int .i64 1]] W fun e w' => e = .returned (.tuple #[.int .i64 (-25567), .int .i64 0]) ∧ Below W.heap.size W w') := Lib.hid fun W hW => by
    have h := civ_Of 1900 1 1 W (tabW hT2 hW) ok_first
    rw [e1] at h
    exact h.mono fun e w' ⟨h1, h2⟩ => ⟨h1, h2.below⟩
  have HO2 : Hid (∀ W, Below w2.heap.size w2 W → Calls Tryz.prog 97 #[.agg #[.int .i64 2199, .int .i64 12, .int .i64 31]] W fun e w' => e = .returned (.tuple #[.int .i64 84005, .int .i64 0]) ∧ Below W.heap.size W w') := Lib.hid fun W hW => by
    have h := civ_Of 2199 12 31 W (tabW hT2 hW) ok_last
    rw [e2] at h
    exact h.mono fun e w' ⟨h1, h2⟩ => ⟨h1, h2.below⟩
  have HM : Hid (wkM h D F U = if chkP h D = 0 then sumD (onV h D) (loD F) (lenD F U) else 0) := Lib.hid rfl
  have HN : Hid (wkN h D F U = if chkP h D = 0 then sumD (oneD (onV h D)) (loD F) (lenD F U) else 0) := Lib.hid rfl
  obtain ⟨rm, hrm⟩ : ∃ z, wkM h D F U = z := ⟨_, rfl⟩
  obtain ⟨rn, hrn⟩ : ∃ z, wkN h D F U = z := ⟨_, rfl⟩
  rw [hrm] at HM ⊢
  rw [hrn] at HN ⊢
  have HE := Lib.hid (And.intro hpb (And.intro hsb hw2))
  have HCO : Hid (chkP h D = 0 → ∀ d W, -25567 ≤ d → d ≤ 84005 → Below w2.heap.size w2 W → Calls Tryz.prog 95 #[.agg #[.int .i64 (h 0), .int .i64 (h 1), .int .i64 (h 2), .int .i64 (h 3), .int .i64 (h 4), .int .i64 (h 5), .int .i64 (h 6), .slice A D.length c], .int .i64 d] W fun e w' => e = .returned (.int .i64 (onV h D d)) ∧ Below W.heap.size W w') := Lib.hid fun hc d W h1 h2 hW => by
    obtain ⟨g1, g2, g3, g4⟩ := chkP_ok hc
    exact wk_on h D A c d W (by omega) g3 ⟨h1, h2⟩ (sl_bel HS2.out hW)
  have HRB : Hid (chkP h D = 0 → ∀ d, 0 ≤ onV h D d ∧ onV h D d ≤ 1440) := Lib.hid fun hc d => onV_bd (chkP_ok hc).1 D d
  have HZ : Hid (eq7w h zero7 = true → ∀ d, onV h D d = 0) := Lib.hid fun hz d => onV_zero D d hz
  obtain ⟨ce, hce⟩ : ∃ ce, chkP h D = ce := ⟨_, rfl⟩
  obtain ⟨f, hf⟩ : ∃ f, onV h D = f := ⟨_, rfl⟩
  rw [hce] at HCK HM HN HCO HRB
  rw [hf] at HM HN HCO HRB HZ
  clear hs hb2 hw2 hpb hsb k1 k2 hrm hrn hce hf hT hT2 e1 e2 hd hn
  obtain ⟨⟨K0, K1, K2, K3, K4, K5, K6, K7⟩, S0, S1⟩ := HKC.out _ (Below.refl _ _)
  go_enter Tryz.func84, Tryz.ntmps84
  go_upto_region 1 with fail
  rw [HE.out.1, HE.out.2.1, HE.out.2.2]
  clear HE
  go_step3
  go_wp2_with fail
  refine HCK.out.mono ?_
  rintro e w3 ⟨rfl, hb3⟩
  have HB3 := Lib.hid hb3
  clear hb3 HCK K0 K1 K2 K3 K4 K5 K6 K7 S0 S1
  obtain ⟨⟨K0, K1, K2, K3, K4, K5, K6, K7⟩, S0, S1⟩ := HKC.out _ HB3.out
  by_cases hc : ce = 0
  · subst hc
    have HM0 : Hid (rm = sumD f (loD F) (lenD F U)) := Lib.hid (by have h := HM.out; rwa [if_pos rfl] at h)
    have HN0 : Hid (rn = sumD (oneD f) (loD F) (lenD F U)) := Lib.hid (by have h := HN.out; rwa [if_pos rfl] at h)
    have HCO0 := Lib.hid (HCO.out rfl)
    have HRB0 := Lib.hid (HRB.out rfl)
    obtain ⟨zq, hzq⟩ : ∃ zq, eq7w h zero7 = zq := ⟨_, rfl⟩
    have hw := eqW0 h zero7
    rw [hzq] at hw
    simp only [zero7] at hw
    rw [hzq] at HZ
    clear hzq
    cases zq with
    | true =>
      have HF : Hid (rm = 0 ∧ rn = 0 ∧ Below w.heap.size w w3) := Lib.hid ⟨by rw [HM.out, if_pos rfl]; exact sumD_zero (HZ.out rfl) _ _, by rw [HN.out, if_pos rfl]; exact sumD_zero (fun d => by unfold oneD; rw [if_pos (HZ.out rfl d)]) _ _, bTrans HB2.out HB3.out⟩
      go_wp2
      try rw [Exit.noGoto_ret]
      go_ret2
      exact ⟨by rw [HF.out.1, HF.out.2.1]; rfl, HF.out.2.2⟩
    | false =>
      have HO1' := Lib.hid (HO1.out _ HB3.out)
      go_wp2_with fail
      refine HO1'.out.mono ?_
      rintro e w4 ⟨rfl, hb4⟩
      have HB4 := Lib.hid (bTrans HB3.out hb4)
      have HO2' := Lib.hid (HO2.out _ HB4.out)
      clear hb4 HO1' HO1 HO2 hw HZ
      go_wp2_with fail
      refine HO2'.out.mono ?_
      rintro e w5 ⟨rfl, hb5⟩
      have HB5 := Lib.hid (bTrans HB4.out hb5)
      clear hb5 HO2' K0 K1 K2 K3 K4 K5 K6 K7 S0 S1
      obtain ⟨_, S0, S1⟩ := HKC.out _ HB5.out
      obtain ⟨lo, hlo⟩ : ∃ lo, loD F = lo := ⟨_, rfl⟩
      obtain ⟨hi, hhi⟩ : ∃ hi, hiD U = hi := ⟨_, rfl⟩
      have hmx : max F (-25567) = lo := hlo
      have hmi : min U 84006 = hi := hhi
      have hlo1 : -25567 ≤ lo := by omega
      have hhi1 : hi ≤ 84006 := by omega
      have HLN : Hid (lenD F U = (hi - lo).toNat) := Lib.hid (by unfold lenD; rw [hlo, hhi])
      rw [hlo] at HM0 HN0
      clear HM HN HCO HRB hlo hhi
      go_wp2
      go_step3
      go_wp2
      try simp only [hmx]
      clear S0 S1
      go_loopw [10, 11, 12] (fun mv nv dv wr => ∃ k : Nat, (k = 0 ∨ lo + k ≤ hi) ∧ dv = .int .i64 (lo + k) ∧ (∃ x y : Int, mv = .int .i64 x ∧ nv = .int .i64 y ∧ Hid (sumD f lo k = x ∧ sumD (oneD f) lo k = y)) ∧ Hid (Below w2.heap.size w2 wr)) (fun _ _ dv _ => (hi - intOf dv).toNat)
      case atStart => exact ⟨0, .inl rfl, by first | rfl | (congr 1; omega) | (simp; done), ⟨0, 0, rfl, rfl, Lib.hid ⟨rfl, rfl⟩⟩, HB5⟩
      case round =>
        obtain ⟨k, hk, rfl, ⟨x, y, rfl, rfl, HXY⟩, HB⟩ := hrel
        obtain ⟨_, S0, S1⟩ := HKC.out _ HB.out
        have hxy : (0 ≤ x ∧ x ≤ 1440 * k) ∧ (0 ≤ y ∧ y ≤ 1 * k) := by
          rw [← HXY.out.1, ← HXY.out.2]
          exact ⟨sumD_bd HRB0.out lo k, sumD_bd (oneD_bd f) lo k⟩
        obtain ⟨d, hd⟩ : ∃ d, lo + k = d := ⟨_, rfl⟩
        rw [hd]
        by_cases hlt : d < hi
        · have hkb : (k : Int) ≤ 109573 := by omega
          have hd1 : -25567 ≤ d ∧ d ≤ 84005 := by omega
          have HON := Lib.hid (HCO0.out d wr hd1.1 hd1.2 HB.out)
          obtain ⟨n, hn⟩ : ∃ n, f d = n := ⟨_, rfl⟩
          have HSX : Hid (sumD f lo (k + 1) = x + n ∧ sumD (oneD f) lo (k + 1) = y + if n = 0 then 0 else 1) := Lib.hid ⟨by rw [sumD, HXY.out.1, hd, hn], by rw [sumD, HXY.out.2, hd]; unfold oneD; rw [hn]⟩
          have hn1 : 0 ≤ n ∧ n ≤ 1440 := by rw [← hn]; exact HRB0.out d
          have HD1 : Hid (lo + ((k + 1 : Nat) : Int) = d + 1) := Lib.hid (by omega)
          rw [hn] at HON
          have hmi2 := hmi
          obtain ⟨⟨K0, K1, K2, K3, K4, K5, K6, K7⟩, _, _⟩ := HKC.out _ HB.out
          clear hd hn
          go_wp2_with fail
          refine HON.out.mono ?_
          rintro e wn ⟨rfl, hbn⟩
          have HBN := Lib.hid (bTrans HB.out hbn)
          clear hbn K0 K1 K2 K3 K4 K5 K6 K7 S0 S1 HON
          by_cases hn0 : n = 0
          · subst hn0
            go_wp2
            exact ⟨⟨k + 1, .inr (by rw [HD1.out]; omega), by rw [HD1.out], ⟨x, y, rfl, rfl, Lib.hid ⟨by rw [HSX.out.1]; omega, by rw [HSX.out.2]; simp⟩⟩, HBN⟩, by simp [intOf]; omega⟩
          · have hnq : (n == 0) = false := beq_eq_false_iff_ne.2 hn0
            go_wp2
            exact ⟨⟨k + 1, .inr (by rw [HD1.out]; omega), by rw [HD1.out], ⟨x + n, y + 1, by go_num, by go_num, Lib.hid ⟨by rw [HSX.out.1], by rw [HSX.out.2, if_neg hn0]⟩⟩, HBN⟩, by simp [intOf]; omega⟩
        · have HK : Hid (k = lenD F U) := Lib.hid (by rw [HLN.out]; omega)
          have HF : Hid (rm = x ∧ rn = y ∧ Below w.heap.size w wr) := Lib.hid ⟨by rw [HM0.out, ← HK.out, HXY.out.1], by rw [HN0.out, ← HK.out, HXY.out.2], bTrans HB2.out HB.out⟩
          clear hd
          go_wp2
          try rw [Exit.noGoto_ret]
          go_ret2
          exact ⟨by rw [HF.out.1, HF.out.2.1]; rfl, HF.out.2.2⟩
  · have HF : Hid (rm = 0 ∧ rn = 0 ∧ Below w.heap.size w w3) := Lib.hid ⟨by rw [HM.out, if_neg hc], by rw [HN.out, if_neg hc], bTrans HB2.out HB3.out⟩
    have hcq : (ce == 0) = false := beq_eq_false_iff_ne.2 hc
    have hcn : (ce != 0) = true := bne_iff_ne.2 hc
    go_wp2
    try rw [Exit.noGoto_ret]
    go_ret2
    exact ⟨by rw [HF.out.1, HF.out.2.1]; rfl, HF.out.2.2⟩
set_option maxHeartbeats 2000000 in
theorem wk_Minutes (h : Nat → Int) (D : List Int) (A : Option Addr) (c : Nat) (F U : Int) (w : World) (hn : D.length ≤ 9223372036854775807) (hd : ∀ d ∈ D, -9223372036854775808 ≤ d ∧ d ≤ 9223372036854775807) (hs : Sl encDd 1 w w.heap.size A D) (hT : Tab w) :
    Calls Tryz.prog 46 #[.agg #[.int .i64 (h 0), .int .i64 (h 1), .int .i64 (h 2), .int .i64 (h 3), .int .i64 (h 4), .int .i64 (h 5), .int .i64 (h 6), .slice A D.length c], .agg #[.int .i64 F, .int .i64 U]] w fun e w' => e = .returned (.int .i64 (wkM h D F U)) ∧ Below w.heap.size w w' := by
  obtain ⟨pb, hpb⟩ : ∃ z, w.heap.size = z := ⟨_, rfl⟩
  obtain ⟨sb, hsb⟩ : ∃ z, pb + 1 = z := ⟨_, rfl⟩
  obtain ⟨w2, hw2⟩ : ∃ z, (w.alloc (.cells #[.int .i64 (h 0), .int .i64 (h 1), .int .i64 (h 2), .int .i64 (h 3), .int .i64 (h 4), .int .i64 (h 5), .int .i64 (h 6), .slice A D.length c] 85)).alloc (.cells #[.int .i64 F, .int .i64 U] 31) = z := ⟨_, rfl⟩
  obtain ⟨k1, k2, hb2⟩ := bkk2 w _ _ _ _ hpb hsb hw2
  have HB2 := Lib.hid hb2
  have HWK := Lib.hid (wk_worked h D A c F U w2 hn hd (sl_bel hs hb2) (tabW hT hb2))
  have HE := Lib.hid (And.intro hpb (And.intro hsb hw2))
  have K0 : w2.cell? ⟨pb, 0, none⟩ = some (.int .i64 (h 0)) := k1.cell 0
  have K1 : w2.cell? ⟨pb, 1, none⟩ = some (.int .i64 (h 1)) := k1.cell 1
  have K2 : w2.cell? ⟨pb, 2, none⟩ = some (.int .i64 (h 2)) := k1.cell 2
  have K3 : w2.cell? ⟨pb, 3, none⟩ = some (.int .i64 (h 3)) := k1.cell 3
  have K4 : w2.cell? ⟨pb, 4, none⟩ = some (.int .i64 (h 4)) := k1.cell 4
  have K5 : w2.cell? ⟨pb, 5, none⟩ = some (.int .i64 (h 5)) := k1.cell 5
  have K6 : w2.cell? ⟨pb, 6, none⟩ = some (.int .i64 (h 6)) := k1.cell 6
  have K7 : w2.cell? ⟨pb, 7, none⟩ = some (.slice A D.length c) := k1.cell 7
  have S0 : w2.cell? ⟨sb, 0, none⟩ = some (.int .i64 F) := k2.cell 0
  have S1 : w2.cell? ⟨sb, 1, none⟩ = some (.int .i64 U) := k2.cell 1
  obtain ⟨rv, hrv⟩ : ∃ z, wkM h D F U = z := ⟨_, rfl⟩
  have HRV := Lib.hid hrv
  clear hpb hsb hw2 k1 k2 hb2 hs hT hd hn hrv
  go_enter Tryz.func46, Tryz.ntmps46
  go_upto_region 1 with fail
  rw [HE.out.1, HE.out.2.1, HE.out.2.2]
  clear HE
  go_wp2_with fail
  refine HWK.out.mono ?_
  rintro e w3 ⟨rfl, hb3⟩
  have HF := Lib.hid (bTrans HB2.out hb3)
  clear hb3 HWK K0 K1 K2 K3 K4 K5 K6 K7 S0 S1
  go_wp2
  go_ret
  exact ⟨rfl, HF.out⟩
set_option maxHeartbeats 2000000 in
theorem wk_Days (h : Nat → Int) (D : List Int) (A : Option Addr) (c : Nat) (F U : Int) (w : World) (hn : D.length ≤ 9223372036854775807) (hd : ∀ d ∈ D, -9223372036854775808 ≤ d ∧ d ≤ 9223372036854775807) (hs : Sl encDd 1 w w.heap.size A D) (hT : Tab w) :
    Calls Tryz.prog 77 #[.agg #[.int .i64 (h 0), .int .i64 (h 1), .int .i64 (h 2), .int .i64 (h 3), .int .i64 (h 4), .int .i64 (h 5), .int .i64 (h 6), .slice A D.length c], .agg #[.int .i64 F, .int .i64 U]] w fun e w' => e = .returned (.int .i64 (wkN h D F U)) ∧ Below w.heap.size w w' := by
  obtain ⟨pb, hpb⟩ : ∃ z, w.heap.size = z := ⟨_, rfl⟩
  obtain ⟨sb, hsb⟩ : ∃ z, pb + 1 = z := ⟨_, rfl⟩
  obtain ⟨w2, hw2⟩ : ∃ z, (w.alloc (.cells #[.int .i64 (h 0), .int .i64 (h 1), .int .i64 (h 2), .int .i64 (h 3), .int .i64 (h 4), .int .i64 (h 5), .int .i64 (h 6), .slice A D.length c] 85)).alloc (.cells #[.int .i64 F, .int .i64 U] 31) = z := ⟨_, rfl⟩
  obtain ⟨k1, k2, hb2⟩ := bkk2 w _ _ _ _ hpb hsb hw2
  have HB2 := Lib.hid hb2
  have HWK := Lib.hid (wk_worked h D A c F U w2 hn hd (sl_bel hs hb2) (tabW hT hb2))
  have HE := Lib.hid (And.intro hpb (And.intro hsb hw2))
  have K0 : w2.cell? ⟨pb, 0, none⟩ = some (.int .i64 (h 0)) := k1.cell 0
  have K1 : w2.cell? ⟨pb, 1, none⟩ = some (.int .i64 (h 1)) := k1.cell 1
  have K2 : w2.cell? ⟨pb, 2, none⟩ = some (.int .i64 (h 2)) := k1.cell 2
  have K3 : w2.cell? ⟨pb, 3, none⟩ = some (.int .i64 (h 3)) := k1.cell 3
  have K4 : w2.cell? ⟨pb, 4, none⟩ = some (.int .i64 (h 4)) := k1.cell 4
  have K5 : w2.cell? ⟨pb, 5, none⟩ = some (.int .i64 (h 5)) := k1.cell 5
  have K6 : w2.cell? ⟨pb, 6, none⟩ = some (.int .i64 (h 6)) := k1.cell 6
  have K7 : w2.cell? ⟨pb, 7, none⟩ = some (.slice A D.length c) := k1.cell 7
  have S0 : w2.cell? ⟨sb, 0, none⟩ = some (.int .i64 F) := k2.cell 0
  have S1 : w2.cell? ⟨sb, 1, none⟩ = some (.int .i64 U) := k2.cell 1
  obtain ⟨rv, hrv⟩ : ∃ z, wkN h D F U = z := ⟨_, rfl⟩
  have HRV := Lib.hid hrv
  clear hpb hsb hw2 k1 k2 hb2 hs hT hd hn hrv
  go_enter Tryz.func77, Tryz.ntmps77
  go_upto_region 1 with fail
  rw [HE.out.1, HE.out.2.1, HE.out.2.2]
  clear HE
  go_wp2_with fail
  refine HWK.out.mono ?_
  rintro e w3 ⟨rfl, hb3⟩
  have HF := Lib.hid (bTrans HB2.out hb3)
  clear hb3 HWK K0 K1 K2 K3 K4 K5 K6 K7 S0 S1
  go_wp2
  go_ret
  exact ⟨rfl, HF.out⟩
end Go.Proofs.YtlgoaohklggcdaaGreatDoor
