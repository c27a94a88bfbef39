import Derived.Test.YtmngghglcgmkeaaGreatDoorAbk
import Derived.Test.YtmngghglcgmkeaaGreatDoorRgwr
import Derived.BigQuiet
import Derived.Deep.RegionHeld3
/- law18.AbsentOver. Printed by gen/mkabu.py. -/
namespace Go.Proofs.YtmngghglcgmkeaaGreatDoor
open Go.RowKit Go.Sort

theorem over_end {T N : List Fa} {f : Fa} (h18 : ∀ g ∈ T, g.ki ≠ 18) (hN : N = T ++ [noId f]) (h7 : f.ki = 7) (hp : f.pe = 1) {F U d : Int} (h1 : F ≤ d) (h2 : d < U) :
    atOf (absX (kA N 1) F U) d = if inB f d = true then ⟨0, 0, (kiB f.co).1, f.nu, (N.length : Int)⟩ else atOf (absX (kA T 1) F U) d := by
  subst hN
  rw [over_law (f := noId f) h18 h7 hp h1 h2]
  have e : inB (noId f) d = inB f d := rfl
  rw [e]
  split
  · simp [noId]
  · rfl
/-- An absence is laid over another one. -/
theorem wp_store_ab {o : Oper} {a : Act} {w : World} {K : Act → World → Prop} {Q : Exit → Act → World → Prop} {d s vb : Nat} {x0 x1 x2 x3 x4 y0 y1 y2 y3 y4 : Int} (hop : o.op = .store 48 (.tmp d) (.tmp s))
    (hp : a.tmps.getD d undef = .pointer (some ⟨vb, 0, none⟩)) (hs : a.tmps.getD s undef = .agg #[.int .i64 x0, .int .i64 x1, .int .i64 x2, .int .i64 x3, .int .i64 x4]) (hk : Bk vb 48 #[.int .i64 y0, .int .i64 y1, .int .i64 y2, .int .i64 y3, .int .i64 y4] w)
    (h : ∀ w', Bk vb 48 #[.int .i64 x0, .int .i64 x1, .int .i64 x2, .int .i64 x3, .int .i64 x4] w' → w.grownBy w' (some vb) → K (a.put o.dst undef) w') : o.wp Tryz.prog a w K Q := by
  have h1 : a.eval (.tmp d) = .pointer (some ⟨vb, 0, none⟩) := hp
  have h2 : a.eval (.tmp s) = .agg #[.int .i64 x0, .int .i64 x1, .int .i64 x2, .int .i64 x3, .int .i64 x4] := hs
  have V0 := hk.cell 0
  have V1 := hk.cell 1
  have V2 := hk.cell 2
  have V3 := hk.cell 3
  have V4 := hk.cell 4
  have f0 := hk.frozen 0
  have f1 := hk.frozen 1
  have f2 := hk.frozen 2
  have f3 := hk.frozen 3
  have f4 := hk.frozen 4
  have k0 : Bk vb 48 #[.int .i64 x0, .int .i64 y1, .int .i64 y2, .int .i64 y3, .int .i64 y4] _ := hk.set_ 0 (.int .i64 x0)
  have k1 : Bk vb 48 #[.int .i64 x0, .int .i64 x1, .int .i64 y2, .int .i64 y3, .int .i64 y4] _ := k0.set_ 1 (.int .i64 x1)
  have k2 : Bk vb 48 #[.int .i64 x0, .int .i64 x1, .int .i64 x2, .int .i64 y3, .int .i64 y4] _ := k1.set_ 2 (.int .i64 x2)
  have k3 : Bk vb 48 #[.int .i64 x0, .int .i64 x1, .int .i64 x2, .int .i64 x3, .int .i64 y4] _ := k2.set_ 3 (.int .i64 x3)
  have k4 : Bk vb 48 #[.int .i64 x0, .int .i64 x1, .int .i64 x2, .int .i64 x3, .int .i64 x4] _ := k3.set_ 4 (.int .i64 x4)
  have h := h _ k4 (grown_trans (grown_trans (grown_trans (grown_trans (gSet _ _ _) (gSet _ _ _)) (gSet _ _ _)) (gSet _ _ _)) (gSet _ _ _))
  clear k0 k1 k2 k3 k4 hk hp hs
  simp only [List.getElem?_toArray, List.getElem?_cons_zero, List.getElem?_cons_succ] at V0 V1 V2 V3 V4
  unfold Oper.wp execOp
  simp only [hop, h1, h2]
  go_simp
  exact h
set_option maxHeartbeats 8000000 in
set_option maxRecDepth 100000 in
theorem lw_AbsentOver (l : List Fa) (A : Option Addr) (ca : Nat) (f : Fa) (F U : Int) (w : World) (hl : l.length ≤ 9223372036854775807) (fl : ∀ f ∈ l, FitW f) (ff : FitW f) (hL : SlF w A l) (hF : -9223372036854775808 ≤ F ∧ F ≤ 9223372036854775807) (hU : -9223372036854775808 ≤ U ∧ U ≤ 9223372036854775807) (hT : Tb w) (hC : Tab w) :
    Calls Tryz.prog 3 #[.slice A l.length ca, .agg (FA f), .agg #[.int .i64 F, .int .i64 U]] w fun e w' => e = .returned (.bool true) ∧ Below w.heap.size w w' := by
  have HAW : Hid (∀ W, Below w.heap.size w W → Calls Tryz.prog 8 #[] W fun e w' => e = .returned (.bool true) ∧ Below W.heap.size W w') := Lib.hid fun W hW => la_awake18 W (hT.below hW) (tabW hC hW)
  obtain ⟨fb, hfb⟩ : ∃ z, w.heap.size = z := ⟨_, rfl⟩
  obtain ⟨sb, hsb⟩ : ∃ z, fb + 1 = z := ⟨_, rfl⟩
  obtain ⟨w2, hw2⟩ : ∃ z, (w.alloc (.cells (FA f) 26)).alloc (.cells #[.int .i64 F, .int .i64 U] 28) = z := ⟨_, rfl⟩
  obtain ⟨k1, k2, hb2⟩ := bkk2 w _ _ _ _ hfb hsb hw2
  have HB2 := Lib.hid hb2
  have HKF := Lib.hid k1
  have HKC : Hid (∀ W, Below w2.heap.size w2 W → (W.cell? ⟨fb, 1, none⟩ = some (.int .u32 f.pe) ∧ W.cell? ⟨fb, 2, none⟩ = some (.int .i64 f.ki) ∧ W.cell? ⟨fb, 5, none⟩ = some (.string f.co) ∧ W.cell? ⟨fb, 7, none⟩ = some (.string f.tx)) ∧ W.cell? ⟨sb, 0, none⟩ = some (.int .i64 F) ∧ W.cell? ⟨sb, 1, none⟩ = some (.int .i64 U)) := Lib.hid fun W hW => ⟨⟨bCell hW (k1.cell 1), bCell hW (k1.cell 2), bCell hW (k1.cell 5), bCell hW (k1.cell 7)⟩, bCell hW (k2.cell 0), bCell hW (k2.cell 1)⟩
  have HKS := Lib.hid k2
  have HFE := Lib.hid (la_few l A ca w2 hl (hL.below hb2))
  have HLO := Lib.hid (fun W => la_long F U 200 W hF hU (by omega))
  have HTD : Hid ((∀ f ∈ l, Fit f) → l.length ≤ 30 → ∀ W, Below w.heap.size w W → Calls Tryz.prog 9 #[.slice A l.length ca, .int .u32 1] W (TolR l 1 W)) := Lib.hid fun hf h30 W hW => la_told18 l A ca 1 W (by omega) hf (hL.below hW) (hT.below hW)
  have HFI : Hid (∀ (h : ∀ f ∈ l, f.ki ≠ 18 ∧ f.co.size ≤ 300 ∧ f.tx.size ≤ 300), ∀ f ∈ l, Fit f) := Lib.hid fun h => few_fit fl h
  have HTT := Lib.hid hT
  have HFG : Hid (w.heap.size ≤ fb ∧ fb < w2.heap.size ∧ fb ≠ sb) := Lib.hid ⟨by omega, k1.lt, by omega⟩
  have HFW0 := Lib.hid ff
  unfold FA at hw2 ⊢
  have HE := Lib.hid (And.intro hfb (And.intro hsb hw2))
  clear hfb hsb hw2 k1 k2 hb2 hT hC hL fl ff
  go_enter Tryz.func3, Tryz.ntmps3
  go_upto_region 1 with fail
  rw [HE.out.1, HE.out.2.1, HE.out.2.2]
  clear HE
  go_wp2_with fail
  refine HFE.out.mono ?_
  rintro e w3 ⟨fw, rfl, hfw, hb3⟩
  have HB3 := Lib.hid hb3
  have HFW := Lib.hid hfw
  clear hb3 hfw HFE
  cases fw with
  | false =>
    go_wp2_with fail
    refine (HAW.out _ (bTrans HB2.out HB3.out)).mono ?_
    rintro e w4 ⟨rfl, hb4⟩
    have HF := Lib.hid (bTrans HB2.out (bTrans HB3.out hb4))
    clear hb4
    go_wp2
    go_ret
    exact ⟨rfl, HF.out⟩
  | true =>
    have HFW1 := Lib.hid (HFW.out rfl)
    obtain ⟨⟨K1, K2, K5, K7⟩, S0, S1⟩ := HKC.out _ HB3.out
    have HLO3 := Lib.hid (HLO.out w3)
    clear HFW HLO
    go_wp2_with fail
    refine HLO3.out.mono ?_
    rintro e w4 ⟨lb, rfl, hlb, hb4⟩
    have HB4 := Lib.hid (bTrans HB3.out hb4)
    have HLB := Lib.hid hlb
    clear hb4 hlb HLO3 K1 K2 K5 K7 S0 S1
    obtain ⟨⟨K1, K2, K5, K7⟩, S0, S1⟩ := HKC.out _ HB4.out
    have HAW4 := Lib.hid (HAW.out _ (bTrans HB2.out HB4.out))
    obtain ⟨b2, e2⟩ : ∃ b, decide (F < -25567) = b := ⟨_, rfl⟩
    obtain ⟨b3, e3⟩ : ∃ b, decide (84006 < U) = b := ⟨_, rfl⟩
    obtain ⟨b4, e4⟩ : ∃ b, (f.ki != 7) = b := ⟨_, rfl⟩
    obtain ⟨b5, e5⟩ : ∃ b, (f.pe != 1) = b := ⟨_, rfl⟩
    obtain ⟨b6, e6⟩ : ∃ b, decide ((300 : Int) < (f.co.size : Int)) = b := ⟨_, rfl⟩
    obtain ⟨b7, e7⟩ : ∃ b, decide ((300 : Int) < (f.tx.size : Int)) = b := ⟨_, rfl⟩
    have hcs : lb = true ∨ (lb = false ∧ b2 = true) ∨ (lb = false ∧ b2 = false ∧ b3 = true) ∨ (lb = false ∧ b2 = false ∧ b3 = false ∧ b4 = true) ∨ (lb = false ∧ b2 = false ∧ b3 = false ∧ b4 = false ∧ b5 = true) ∨ (lb = false ∧ b2 = false ∧ b3 = false ∧ b4 = false ∧ b5 = false ∧ b6 = true) ∨ (lb = false ∧ b2 = false ∧ b3 = false ∧ b4 = false ∧ b5 = false ∧ b6 = false ∧ b7 = true) ∨ (lb = false ∧ b2 = false ∧ b3 = false ∧ b4 = false ∧ b5 = false ∧ b6 = false ∧ b7 = false) := by
      cases lb <;> cases b2 <;> cases b3 <;> cases b4 <;> cases b5 <;> cases b6 <;> cases b7 <;> simp
    by_cases hbad : lb = true ∨ b2 = true ∨ b3 = true ∨ b4 = true ∨ b5 = true ∨ b6 = true ∨ b7 = true
    · have hcs2 : lb = true ∨ (lb = false ∧ b2 = true) ∨ (lb = false ∧ b2 = false ∧ b3 = true) ∨ (lb = false ∧ b2 = false ∧ b3 = false ∧ b4 = true) ∨ (lb = false ∧ b2 = false ∧ b3 = false ∧ b4 = false ∧ b5 = true) ∨ (lb = false ∧ b2 = false ∧ b3 = false ∧ b4 = false ∧ b5 = false ∧ b6 = true) ∨ (lb = false ∧ b2 = false ∧ b3 = false ∧ b4 = false ∧ b5 = false ∧ b6 = false ∧ b7 = true) := by
        rcases hcs with h | h | h | h | h | h | h | ⟨rfl, rfl, rfl, rfl, rfl, rfl, rfl⟩
        · exact .inl h
        · exact .inr (.inl h)
        · exact .inr (.inr (.inl h))
        · exact .inr (.inr (.inr (.inl h)))
        · exact .inr (.inr (.inr (.inr (.inl h))))
        · exact .inr (.inr (.inr (.inr (.inr (.inl h)))))
        · exact .inr (.inr (.inr (.inr (.inr (.inr h)))))
        · simp at hbad
      clear hbad hcs HLB
      rcases hcs2 with rfl | ⟨rfl, rfl⟩ | ⟨rfl, rfl, rfl⟩ | ⟨rfl, rfl, rfl, rfl⟩ | ⟨rfl, rfl, rfl, rfl, rfl⟩ | ⟨rfl, rfl, rfl, rfl, rfl, rfl⟩ | ⟨rfl, rfl, rfl, rfl, rfl, rfl, rfl⟩
      all_goals
        go_wp2_with fail
        refine HAW4.out.mono ?_
        rintro e w5 ⟨rfl, hb5⟩
        have HF := Lib.hid (bTrans HB2.out (bTrans HB4.out hb5))
        clear hb5
        go_wp2
        go_ret
        exact ⟨rfl, HF.out⟩
    obtain ⟨rfl, rfl, rfl, rfl, rfl, rfl, rfl⟩ : lb = false ∧ b2 = false ∧ b3 = false ∧ b4 = false ∧ b5 = false ∧ b6 = false ∧ b7 = false := by
      cases lb <;> cases b2 <;> cases b3 <;> cases b4 <;> cases b5 <;> cases b6 <;> cases b7 <;> simp at hbad ⊢
    have HFU := Lib.hid (HLB.out rfl)
    have hF1 : -25567 ≤ F := by have := of_decide_eq_false e2; omega
    have hU1 : U ≤ 84006 := by have := of_decide_eq_false e3; omega
    have hUF : U - F ≤ 200 := HFU.out.2.2.2
    have HK7 : Hid (f.ki = 7 ∧ f.pe = 1) := Lib.hid ⟨by simpa using e4, by simpa using e5⟩
    have HFN : Hid (Fit (noId f)) := Lib.hid (by
      have h1 := HFW0.out
      have h6 := of_decide_eq_false e6
      have h7 := of_decide_eq_false e7
      exact ⟨⟨Int.le_refl _, by show (0 : Int) ≤ _; omega⟩, h1.pe, h1.ki, h1.fr, h1.tO, h1.nu, by show f.co.size ≤ _; omega, by show f.tx.size ≤ _; omega⟩)
    have hkf : Bk fb 26 (FA f) w4 := bkB HKF.out HB4.out
    obtain ⟨w0, hw0⟩ : ∃ z, w4.setCell ⟨fb, 0, none⟩ (.int .u32 0) = z := ⟨_, rfl⟩
    have hg0 : w4.grownBy w0 (some fb) := by rw [← hw0]; exact gSet _ _ _
    have hb0 : Below w.heap.size w w0 := (bTrans HB2.out HB4.out).grown hg0 (bTrans HB2.out HB4.out).size (fun j hj => by cases hj; exact HFG.out.1)
    have hkn : Bk fb 26 (FA (noId f)) w0 := by rw [← hw0]; exact hkf.set_ 0 (.int .u32 0)
    have hks : Bk sb 28 #[.int .i64 F, .int .i64 U] w0 := (bkB HKS.out HB4.out).grownBy hg0 (fun e => HFG.out.2.2 (by injection e with e; first | exact e | exact e.symm))
    have HB0 := Lib.hid hb0
    have HK0 : Hid (∀ W, Below w0.heap.size w0 W → (W.cell? ⟨fb, 0, none⟩ = some (.int .u32 0) ∧ W.cell? ⟨fb, 1, none⟩ = some (.int .u32 f.pe) ∧ W.cell? ⟨fb, 2, none⟩ = some (.int .i64 f.ki) ∧ W.cell? ⟨fb, 3, none⟩ = some (.int .i64 f.fr) ∧ W.cell? ⟨fb, 4, none⟩ = some (.int .i64 f.to) ∧ W.cell? ⟨fb, 5, none⟩ = some (.string f.co) ∧ W.cell? ⟨fb, 6, none⟩ = some (.int .i64 f.nu) ∧ W.cell? ⟨fb, 7, none⟩ = some (.string f.tx)) ∧ W.cell? ⟨sb, 0, none⟩ = some (.int .i64 F) ∧ W.cell? ⟨sb, 1, none⟩ = some (.int .i64 U)) := Lib.hid fun W hW => ⟨⟨bCell hW (hkn.cell 0), bCell hW (hkn.cell 1), bCell hW (hkn.cell 2), bCell hW (hkn.cell 3), bCell hW (hkn.cell 4), bCell hW (hkn.cell 5), bCell hW (hkn.cell 6), bCell hW (hkn.cell 7)⟩, bCell hW (hks.cell 0), bCell hW (hks.cell 1)⟩
    have K0 : w4.cell? ⟨fb, 0, none⟩ = some (.int .u32 f.id) := hkf.cell 0
    have G0 := hkf.frozen 0
    have HTD4 := Lib.hid (HTD.out (HFI.out HFW1.out.1) HFW1.out.2 w0 hb0)
    obtain ⟨T, hTT⟩ : ∃ T, tellL [] l = T := ⟨_, rfl⟩
    have hTl : T.length ≤ 30 := by rw [← hTT]; exact Nat.le_trans (told_le l) HFW1.out.2
    have H18 : Hid (∀ g ∈ T, g.ki ≠ 18) := Lib.hid (by rw [← hTT]; exact tellL_all (p := fun f => f.ki ≠ 18) (by simp) (fun f hf => (HFW1.out.1 f hf).1))
    have HTE := Lib.hid hTT
    have HE := Lib.hid hw0
    clear hw0 hg0 hb0 hkn hks hkf HLB HTD HFI hTT HAW4 hbad hcs HKC HKS HKF
    go_upto_region 4 with fail
    rw [HE.out]
    clear HE K0 K1 K2 K5 K7 S0 S1 G0 e2 e3 e4 e5 e6 e7
    go_wp2_with fail
    refine HTD4.out.mono ?_
    rintro e w5 ⟨⟨A2, c2, Am, cm, rfl, hc2, hs5, _⟩, hb5⟩
    rw [HTE.out] at hc2 hs5 ⊢
    obtain ⟨mn, hmn⟩ : ∃ n, (toMs 1 T).length = n := ⟨_, rfl⟩
    rw [hmn]
    clear hmn
    obtain ⟨tb, htb⟩ : ∃ z, w5.heap.size = z := ⟨_, rfl⟩
    obtain ⟨w6, hw6⟩ : ∃ z, w5.alloc (.cells #[.slice A2 T.length c2] 33) = z := ⟨_, rfl⟩
    have hb56 : Below w5.heap.size w5 w6 := by rw [← hw6]; exact bAlloc _ _
    have HK6 : Hid (Bk tb 33 #[.slice A2 T.length c2] w6) := Lib.hid (by rw [← hw6, ← htb]; exact Bk.new _ _ _)
    have HB6 : Hid (Below w0.heap.size w0 w6) := Lib.hid (bTrans hb5 hb56)
    have HS6 : Hid (SlF w6 A2 T ∧ T.length ≤ c2) := Lib.hid ⟨hs5.below hb56, hc2⟩
    have HADD := Lib.hid (st_AddF T A2 c2 (noId f) w6 (by omega) hc2 (hs5.below hb56) HFN.out (HTT.out.below (bTrans HB0.out HB6.out)))
    have HOR := Lib.hid (addL_or T (noId f))
    obtain ⟨N, en, hN⟩ : ∃ N en, addL T (noId f) = (N, en) := ⟨_, _, rfl⟩
    unfold addF at HADD
    rw [hN] at HADD HOR
    simp only at HADD
    unfold FA noId at HADD
    simp only at HADD
    have T0 : w6.cell? ⟨tb, 0, none⟩ = some (.slice A2 T.length c2) := HK6.out.cell 0
    obtain ⟨⟨K0, K1, K2, K3, K4, K5, K6, K7⟩, S0, S1⟩ := HK0.out _ HB6.out
    have HE := Lib.hid (And.intro htb hw6)
    clear htb hw6 hb5 hb56 hs5 hc2 HTD4 hN
    go_upto_region 5 with fail
    rw [HE.out.1, HE.out.2]
    clear HE
    go_wp2_with fail
    refine HADD.out.mono ?_
    rintro e w7 ⟨⟨A3, c3, rfl, hc3, hs7, _⟩, hb7⟩
    obtain ⟨nb, hnb⟩ : ∃ z, w7.heap.size = z := ⟨_, rfl⟩
    obtain ⟨w8, hw8⟩ : ∃ z, w7.alloc (.cells #[.slice A3 N.length c3] 33) = z := ⟨_, rfl⟩
    have hb78 : Below w7.heap.size w7 w8 := by rw [← hw8]; exact bAlloc _ _
    have hk8 : Bk nb 33 #[.slice A3 N.length c3] w8 := by rw [← hw8, ← hnb]; exact Bk.new _ _ _
    have hb68 : Below w6.heap.size w6 w8 := bTrans hb7 hb78
    have HB8 : Hid (Below w0.heap.size w0 w8) := Lib.hid (bTrans HB6.out hb68)
    have hkt : Bk tb 33 #[.slice A2 T.length c2] w8 := bkB HK6.out hb68
    have HC8 : Hid (∀ W, Below w8.heap.size w8 W → W.cell? ⟨tb, 0, none⟩ = some (.slice A2 T.length c2) ∧ W.cell? ⟨nb, 0, none⟩ = some (.slice A3 N.length c3) ∧ W.cell? ⟨sb, 0, none⟩ = some (.int .i64 F) ∧ W.cell? ⟨sb, 1, none⟩ = some (.int .i64 U)) := Lib.hid fun W hW => ⟨bCell hW (hkt.cell 0), bCell hW (hk8.cell 0), (HK0.out W (bTrans HB8.out hW)).2⟩
    have HK8 := Lib.hid (bShift HK0.out HB8.out)
    have HST : Hid (SlF w8 A2 T ∧ SlF w8 A3 N) := Lib.hid ⟨HS6.out.1.below hb68, hs7.below hb78⟩
    have HCN : Hid (N.length ≤ c3) := Lib.hid hc3
    have HE := Lib.hid (And.intro hnb hw8)
    clear hnb hw8 hb78 hk8 hb68 hkt hs7 hc3 hb7 HADD T0 K0 K1 K2 K3 K4 K5 K6 K7 S0 S1
    go_upto_region 6 with fail
    rw [HE.out.1, HE.out.2]
    clear HE
    have HAW8 := Lib.hid (HAW.out _ (bTrans HB0.out HB8.out))
    by_cases hen : en = 0
    · have HNN : Hid (N = T ++ [noId f]) := Lib.hid (by
        rcases HOR.out with ⟨e, h1, h2⟩ | ⟨h2, _⟩
        · injection h2 with _ h2; omega
        · injection h2)
      subst hen
      have hNl : N.length ≤ 31 := by rw [HNN.out]; simp; omega
      have HAT1 : Hid (∀ W, Calls Tryz.prog 12 #[.agg #[.slice A2 T.length c2], .int .i64 T.length] W fun e w' => e = .returned (.agg #[.slice A2 T.length T.length]) ∧ Below W.heap.size W w') := Lib.hid fun W => by
        have h := st_At T A2 c2 T.length W (by omega) HS6.out.2
        have e : atN T (T.length : Int) = T.length := by unfold atN; simp
        rwa [e] at h
      have HAT2 : Hid (∀ W, Calls Tryz.prog 12 #[.agg #[.slice A3 N.length c3], .int .i64 N.length] W fun e w' => e = .returned (.agg #[.slice A3 N.length N.length]) ∧ Below W.heap.size W w') := Lib.hid fun W => by
        have h := st_At N A3 c3 N.length W (by omega) HCN.out
        have e : atN N (N.length : Int) = N.length := by unfold atN; simp
        rwa [e] at h
      have HLAW : Hid (∀ d, F ≤ d → d < U → atOf (absX (kA N 1) F U) d = if inB f d = true then ⟨0, 0, (kiB f.co).1, f.nu, (N.length : Int)⟩ else atOf (absX (kA T 1) F U) d) := Lib.hid fun d h1 h2 => over_end H18.out HNN.out HK7.out.1 HK7.out.2 h1 h2
      obtain ⟨Zx, hZx⟩ : ∃ Z, absX (kA T 1) F U = Z := ⟨_, rfl⟩
      obtain ⟨Zy, hZy⟩ : ∃ Z, absX (kA N 1) F U = Z := ⟨_, rfl⟩
      have hxl : Zx.length ≤ 10001 := by rw [← hZx]; exact absX_le _ _ _ (Nat.le_trans (chosen_len _ _ _) (by omega))
      have hyl : Zy.length ≤ 10001 := by rw [← hZy]; exact absX_le _ _ _ (Nat.le_trans (chosen_len _ _ _) (by omega))
      have HO1 : Hid (∀ W, Below w8.heap.size w8 W → Calls Tryz.prog 11 #[.agg #[.slice A2 T.length T.length], .int .u32 1, .agg #[.int .i64 F, .int .i64 U]] W fun e w' => (∃ A c, e = .returned (.tuple #[.slice A Zx.length c, .int .i64 0]) ∧ Sl encAb 5 w' w'.heap.size A Zx) ∧ Below W.heap.size W w') := Lib.hid fun W hW => by
        have h := ab_Of T A2 T.length 1 F U W (by omega) (HST.out.1.below hW) hF hU
        refine h.mono fun e w' ⟨h1, h2⟩ => ⟨?_, h2⟩
        rw [if_pos (with_cal hF1 hU1), hZx] at h1
        obtain ⟨A', c', he, ho⟩ := h1
        obtain ⟨A4, c4, e3, _, h4⟩ := own_sl encAb_len ho
        injection e3 with e3 _ _
        rw [← e3] at h4
        exact ⟨A', c', he, h4⟩
      have HO2 : Hid (∀ W, Below w8.heap.size w8 W → Calls Tryz.prog 11 #[.agg #[.slice A3 N.length N.length], .int .u32 1, .agg #[.int .i64 F, .int .i64 U]] W fun e w' => (∃ A c, e = .returned (.tuple #[.slice A Zy.length c, .int .i64 0]) ∧ Sl encAb 5 w' w'.heap.size A Zy) ∧ Below W.heap.size W w') := Lib.hid fun W hW => by
        have h := ab_Of N A3 N.length 1 F U W (by omega) (HST.out.2.below hW) hF hU
        refine h.mono fun e w' ⟨h1, h2⟩ => ⟨?_, h2⟩
        rw [if_pos (with_cal hF1 hU1), hZy] at h1
        obtain ⟨A', c', he, ho⟩ := h1
        obtain ⟨A4, c4, e3, _, h4⟩ := own_sl encAb_len ho
        injection e3 with e3 _ _
        rw [← e3] at h4
        exact ⟨A', c', he, h4⟩
      rw [hZx, hZy] at HLAW
      have HLEN : Hid (∀ W, Calls Tryz.prog 13 #[.agg #[.slice A3 N.length c3]] W fun e w' => e = .returned (.int .i64 N.length) ∧ Below W.heap.size W w') := Lib.hid fun W => st_Len A3 N.length c3 W
      clear HNN HS6 HST HCN hZx hZy HOR HAW8 H18
      go_upto_region 8 with fail
      go_cut [11, 10] from 74 to 82 (fun lv ev wx => (∃ Az cz, lv = .slice Az Zx.length cz ∧ Hid (Sl encAb 5 wx wx.heap.size Az Zx)) ∧ ev = .int .i64 0 ∧ Hid (Below w8.heap.size w8 wx))
      case first =>
        refine wp_region_use (SPS [(7, Sp.val (.pointer (some ⟨tb, 0, none⟩))), (5, Sp.val (.pointer (some ⟨sb, 0, none⟩))), (75, Sp.val (.agg #[.slice A2 T.length c2])), (76, Sp.val (.agg #[.slice A2 T.length c2])), (77, Sp.val (.int .i64 T.length)), (78, Sp.val (.agg #[.slice A2 T.length T.length])), (79, Sp.val (.agg #[.int .i64 F, .int .i64 U])), (80, (spAy Zx)), (74, (spAy Zx)), (81, (spSl encAb 5 Zx)), (82, Sp.val (.int .i64 0)), (11, (spSl encAb 5 Zx)), (10, Sp.val (.int .i64 0))]) [] [75, 76, 77, 78, 79, 80, 74, 81, 82, 11, 10] rfl (by rfl) (by kernel_rfl) (SPS.st _) (by rfl) ?_ (opsK_all ?_) ?_
        · exact sps_start (cons_all rfl (cons_all rfl (nil_all)))
        · refine opsK_cons (by
           exact use_s [] (opOk_load (p := ⟨tb, 0, none⟩) rfl rfl (.inl rfl) (by kernel_rfl) (fun _ _ h => h.get rfl) (fun W hW => by
              obtain ⟨k0, k1, k2, k3⟩ := HC8.out _ hW
              exact ⟨.agg #[.slice A2 T.length c2], by go_simp, sps rfl rfl⟩)) (by kernel_rfl) (by rfl)) ?_
          refine opsK_cons (by
           exact use_s [] (opOk_load (p := ⟨tb, 0, none⟩) rfl rfl (.inl rfl) (by kernel_rfl) (fun _ _ h => h.get rfl) (fun W hW => by
              obtain ⟨k0, k1, k2, k3⟩ := HC8.out _ hW
              exact ⟨.agg #[.slice A2 T.length c2], by go_simp, sps rfl rfl⟩)) (by kernel_rfl) (by rfl)) ?_
          refine opsK_cons (by
           exact use_s [] (opOk_callg (fun a => #[a.eval (.tmp 76)]) rfl rfl (.inl rfl) (fun a => by simp only [List.map_toArray, List.map_cons, List.map_nil] <;> rfl) (fun args W => by go_simp) (fun a W hW hsp => by
              have e76 : a.eval (.tmp 76) = .agg #[.slice A2 T.length c2] := (hsp 76 (by kernel_rfl)).get rfl
              simp only [e76]
              exact (st_Len A2 T.length c2 _).mono fun e w' ⟨he, hb⟩ => ⟨_, he, hb, sps rfl rfl⟩)) (by kernel_rfl) (by rfl)) ?_
          refine opsK_cons (by
           exact use_s [] (opOk_callg (fun a => #[a.eval (.tmp 75), a.eval (.tmp 77)]) rfl rfl (.inl rfl) (fun a => by simp only [List.map_toArray, List.map_cons, List.map_nil] <;> rfl) (fun args W => by go_simp) (fun a W hW hsp => by
              have e75 : a.eval (.tmp 75) = .agg #[.slice A2 T.length c2] := (hsp 75 (by kernel_rfl)).get rfl
              have e77 : a.eval (.tmp 77) = .int .i64 T.length := (hsp 77 (by kernel_rfl)).get rfl
              simp only [e75, e77]
              exact (HAT1.out _).mono fun e w' ⟨he, hb⟩ => ⟨_, he, hb, sps rfl rfl⟩)) (by kernel_rfl) (by rfl)) ?_
          refine opsK_cons (by
           exact use_s [] (opOk_load (p := ⟨sb, 0, none⟩) rfl rfl (.inl rfl) (by kernel_rfl) (fun _ _ h => h.get rfl) (fun W hW => by
              obtain ⟨k0, k1, k2, k3⟩ := HC8.out _ hW
              exact ⟨.agg #[.int .i64 F, .int .i64 U], by go_simp, sps rfl rfl⟩)) (by kernel_rfl) (by rfl)) ?_
          refine opsK_cons (by
           exact use_s [] (opOk_callg (fun a => #[a.eval (.tmp 78), .int .u32 1, a.eval (.tmp 79)]) rfl rfl (.inl rfl) (fun a => by simp only [List.map_toArray, List.map_cons, List.map_nil] <;> rfl) (fun args W => by go_simp) (fun a W hW hsp => by
              have e78 : a.eval (.tmp 78) = .agg #[.slice A2 T.length T.length] := (hsp 78 (by kernel_rfl)).get rfl
              have e79 : a.eval (.tmp 79) = .agg #[.int .i64 F, .int .i64 U] := (hsp 79 (by kernel_rfl)).get rfl
              simp only [e78, e79]
              exact (HO1.out _ hW).mono fun e w' ⟨⟨A, c, he, hs⟩, hb⟩ => ⟨_, he, hb, sps rfl ⟨A, c, rfl, hs⟩⟩)) (by kernel_rfl) (by rfl)) ?_
          refine opsK_cons (by
           exact use_s [] (opOk_move rfl rfl (.inl rfl) (by kernel_rfl) (fun _ _ h => sps rfl (h.get rfl))) (by kernel_rfl) (by rfl)) ?_
          refine opsK_cons (by
           exact use_s [] (opOk_run rfl (.inl rfl) (fun a W hW hsp => by
              obtain ⟨A74, c74, hv, hs74⟩ := (hsp 74 (by kernel_rfl)).get rfl
              have e74 : a.eval (.tmp 74) = .tuple #[.slice A74 Zx.length c74, .int .i64 0] := hv
              refine ⟨.slice A74 Zx.length c74, ?_, sps rfl ⟨A74, c74, rfl, hs74⟩⟩
              unfold execOp
              simp only [e74]
              go_simp)) (by kernel_rfl) (by rfl)) ?_
          refine opsK_cons (by
           exact use_s [] (opOk_run rfl (.inl rfl) (fun a W hW hsp => by
              obtain ⟨A74, c74, hv, hs74⟩ := (hsp 74 (by kernel_rfl)).get rfl
              have e74 : a.eval (.tmp 74) = .tuple #[.slice A74 Zx.length c74, .int .i64 0] := hv
              refine ⟨.int .i64 0, ?_, sps rfl rfl⟩
              unfold execOp
              simp only [e74]
              go_simp)) (by kernel_rfl) (by rfl)) ?_
          refine opsK_cons (by
           exact use_s [] (opOk_assign rfl rfl (.inl rfl) (by kernel_rfl) (fun _ _ h => sps rfl (h.get rfl))) (by kernel_rfl) (by rfl)) ?_
          refine opsK_cons (by
           exact use_s [] (opOk_assign rfl rfl (.inl rfl) (by kernel_rfl) (fun _ _ h => sps rfl (h.get rfl))) (by kernel_rfl) (by rfl)) ?_
          exact opsK_nil
        · intro vs W3 hb hsp
          obtain ⟨Az, cz, zl, hsz⟩ := (hsp 11 (by simp)).get rfl
          have ze := (hsp 10 (by simp)).get rfl
          simp only [putAll]
          go_simp
          go_step
          go_meet
          exact ⟨⟨Az, cz, by first | rfl | exact zl, Lib.hid hsz⟩, by first | rfl | exact ze, Lib.hid hb⟩
      case rest =>
      obtain ⟨⟨Ax, cx, rfl, HSX⟩, rfl, HB9⟩ := hcut
      obtain ⟨w9, rfl⟩ : ∃ x : World, x = wc := ⟨_, rfl⟩
      clear HAT1 HO1
      go_upto_region 9 with fail
      go_cut [12, 13] from 83 to 91 (fun lv ev wx => (∃ Az cz, lv = .slice Az Zy.length cz ∧ Hid (Sl encAb 5 wx wx.heap.size Az Zy)) ∧ ev = .int .i64 0 ∧ Hid (Below w9.heap.size w9 wx))
      case first =>
        refine wp_region_use (SPS [(9, Sp.val (.pointer (some ⟨nb, 0, none⟩))), (5, Sp.val (.pointer (some ⟨sb, 0, none⟩))), (84, Sp.val (.agg #[.slice A3 N.length c3])), (85, Sp.val (.agg #[.slice A3 N.length c3])), (86, Sp.val (.int .i64 N.length)), (87, Sp.val (.agg #[.slice A3 N.length N.length])), (88, Sp.val (.agg #[.int .i64 F, .int .i64 U])), (89, (spAy Zy)), (83, (spAy Zy)), (90, (spSl encAb 5 Zy)), (91, Sp.val (.int .i64 0)), (12, (spSl encAb 5 Zy)), (13, Sp.val (.int .i64 0))]) [] [84, 85, 86, 87, 88, 89, 83, 90, 91, 12, 13] rfl (by rfl) (by kernel_rfl) (SPS.st _) (by rfl) ?_ (opsK_all ?_) ?_
        · exact sps_start (cons_all rfl (cons_all rfl (nil_all)))
        · refine opsK_cons (by
           exact use_s [] (opOk_load (p := ⟨nb, 0, none⟩) rfl rfl (.inl rfl) (by kernel_rfl) (fun _ _ h => h.get rfl) (fun W hW => by
              obtain ⟨k0, k1, k2, k3⟩ := HC8.out _ (bTrans HB9.out hW)
              exact ⟨.agg #[.slice A3 N.length c3], by go_simp, sps rfl rfl⟩)) (by kernel_rfl) (by rfl)) ?_
          refine opsK_cons (by
           exact use_s [] (opOk_load (p := ⟨nb, 0, none⟩) rfl rfl (.inl rfl) (by kernel_rfl) (fun _ _ h => h.get rfl) (fun W hW => by
              obtain ⟨k0, k1, k2, k3⟩ := HC8.out _ (bTrans HB9.out hW)
              exact ⟨.agg #[.slice A3 N.length c3], by go_simp, sps rfl rfl⟩)) (by kernel_rfl) (by rfl)) ?_
          refine opsK_cons (by
           exact use_s [] (opOk_callg (fun a => #[a.eval (.tmp 85)]) rfl rfl (.inl rfl) (fun a => by simp only [List.map_toArray, List.map_cons, List.map_nil] <;> rfl) (fun args W => by go_simp) (fun a W hW hsp => by
              have e85 : a.eval (.tmp 85) = .agg #[.slice A3 N.length c3] := (hsp 85 (by kernel_rfl)).get rfl
              simp only [e85]
              exact (st_Len A3 N.length c3 _).mono fun e w' ⟨he, hb⟩ => ⟨_, he, hb, sps rfl rfl⟩)) (by kernel_rfl) (by rfl)) ?_
          refine opsK_cons (by
           exact use_s [] (opOk_callg (fun a => #[a.eval (.tmp 84), a.eval (.tmp 86)]) rfl rfl (.inl rfl) (fun a => by simp only [List.map_toArray, List.map_cons, List.map_nil] <;> rfl) (fun args W => by go_simp) (fun a W hW hsp => by
              have e84 : a.eval (.tmp 84) = .agg #[.slice A3 N.length c3] := (hsp 84 (by kernel_rfl)).get rfl
              have e86 : a.eval (.tmp 86) = .int .i64 N.length := (hsp 86 (by kernel_rfl)).get rfl
              simp only [e84, e86]
              exact (HAT2.out _).mono fun e w' ⟨he, hb⟩ => ⟨_, he, hb, sps rfl rfl⟩)) (by kernel_rfl) (by rfl)) ?_
          refine opsK_cons (by
           exact use_s [] (opOk_load (p := ⟨sb, 0, none⟩) rfl rfl (.inl rfl) (by kernel_rfl) (fun _ _ h => h.get rfl) (fun W hW => by
              obtain ⟨k0, k1, k2, k3⟩ := HC8.out _ (bTrans HB9.out hW)
              exact ⟨.agg #[.int .i64 F, .int .i64 U], by go_simp, sps rfl rfl⟩)) (by kernel_rfl) (by rfl)) ?_
          refine opsK_cons (by
           exact use_s [] (opOk_callg (fun a => #[a.eval (.tmp 87), .int .u32 1, a.eval (.tmp 88)]) rfl rfl (.inl rfl) (fun a => by simp only [List.map_toArray, List.map_cons, List.map_nil] <;> rfl) (fun args W => by go_simp) (fun a W hW hsp => by
              have e87 : a.eval (.tmp 87) = .agg #[.slice A3 N.length N.length] := (hsp 87 (by kernel_rfl)).get rfl
              have e88 : a.eval (.tmp 88) = .agg #[.int .i64 F, .int .i64 U] := (hsp 88 (by kernel_rfl)).get rfl
              simp only [e87, e88]
              exact (HO2.out _ (bTrans HB9.out hW)).mono fun e w' ⟨⟨A, c, he, hs⟩, hb⟩ => ⟨_, he, hb, sps rfl ⟨A, c, rfl, hs⟩⟩)) (by kernel_rfl) (by rfl)) ?_
          refine opsK_cons (by
           exact use_s [] (opOk_move rfl rfl (.inl rfl) (by kernel_rfl) (fun _ _ h => sps rfl (h.get rfl))) (by kernel_rfl) (by rfl)) ?_
          refine opsK_cons (by
           exact use_s [] (opOk_run rfl (.inl rfl) (fun a W hW hsp => by
              obtain ⟨A83, c83, hv, hs83⟩ := (hsp 83 (by kernel_rfl)).get rfl
              have e83 : a.eval (.tmp 83) = .tuple #[.slice A83 Zy.length c83, .int .i64 0] := hv
              refine ⟨.slice A83 Zy.length c83, ?_, sps rfl ⟨A83, c83, rfl, hs83⟩⟩
              unfold execOp
              simp only [e83]
              go_simp)) (by kernel_rfl) (by rfl)) ?_
          refine opsK_cons (by
           exact use_s [] (opOk_run rfl (.inl rfl) (fun a W hW hsp => by
              obtain ⟨A83, c83, hv, hs83⟩ := (hsp 83 (by kernel_rfl)).get rfl
              have e83 : a.eval (.tmp 83) = .tuple #[.slice A83 Zy.length c83, .int .i64 0] := hv
              refine ⟨.int .i64 0, ?_, sps rfl rfl⟩
              unfold execOp
              simp only [e83]
              go_simp)) (by kernel_rfl) (by rfl)) ?_
          refine opsK_cons (by
           exact use_s [] (opOk_assign rfl rfl (.inl rfl) (by kernel_rfl) (fun _ _ h => sps rfl (h.get rfl))) (by kernel_rfl) (by rfl)) ?_
          refine opsK_cons (by
           exact use_s [] (opOk_assign rfl rfl (.inl rfl) (by kernel_rfl) (fun _ _ h => sps rfl (h.get rfl))) (by kernel_rfl) (by rfl)) ?_
          exact opsK_nil
        · intro vs W3 hb hsp
          obtain ⟨Az, cz, zl, hsz⟩ := (hsp 12 (by simp)).get rfl
          have ze := (hsp 13 (by simp)).get rfl
          simp only [putAll]
          go_simp
          go_step
          go_meet
          exact ⟨⟨Az, cz, by first | rfl | exact zl, Lib.hid hsz⟩, by first | rfl | exact ze, Lib.hid hb⟩
      case rest =>
      obtain ⟨⟨Ay, cy, rfl, HSY⟩, rfl, HBA⟩ := hcut
      obtain ⟨wa, rfl⟩ : ∃ x : World, x = wc := ⟨_, rfl⟩
      have HB8A : Hid (Below w8.heap.size w8 wa) := Lib.hid (bTrans HB9.out HBA.out)
      have HSXA := Lib.hid (sl_bel HSX.out HBA.out)
      have HKI := Lib.hid (ab_Kind f.co wa)
      obtain ⟨⟨k1, k2⟩, hkv⟩ : ∃ v, kiB f.co = v := ⟨_, rfl⟩
      rw [hkv] at HKI HLAW
      obtain ⟨⟨K0, K1, K2, K3, K4, K5, K6, K7⟩, S0, S1⟩ := HK8.out _ HB8A.out
      clear hkv HAT2 HO2 HSX HBA HB9
      go_wp2_with fail
      refine HKI.out.mono ?_
      rintro e wa ⟨rfl, rfl⟩
      clear HKI
      have HKA := Lib.hid (bShift HK8.out HB8A.out)
      have HFB : Hid (fb < wa.heap.size ∧ nb < wa.heap.size) := Lib.hid ⟨cell_lt K0, cell_lt (HC8.out _ HB8A.out).2.1⟩
      have HCA := Lib.hid (bShift HC8.out HB8A.out)
      clear K0 K1 K2 K3 K4 K5 K6 K7
      go_wp2
      clear S0 S1
      go_loopw [17] (fun dv wr => ∃ j : Nat, (j = 0 ∨ F + j ≤ U) ∧ dv = .int .i64 (F + j) ∧ Hid (Below wa.heap.size wa wr)) (fun dv _ => (U - intOf dv).toNat)
      case atStart => exact ⟨0, .inl rfl, by simp, Lib.hid (Below.refl _ _)⟩
      case round =>
        obtain ⟨j, hj, rfl, HB⟩ := hrel
        obtain ⟨wo, hwo⟩ : ∃ x : World, x = wr := ⟨_, rfl⟩
        subst hwo
        obtain ⟨d, hd⟩ : ∃ d, F + (j : Int) = d := ⟨_, rfl⟩
        rw [hd]
        obtain ⟨C0, C1, S0, S1⟩ := HCA.out _ HB.out
        by_cases hlt : d < U
        · have HDE := Lib.hid hd
          have hjb : (j : Int) ≤ 1000000 := by omega
          have hdb : -4398046511104 ≤ d ∧ d ≤ 4398046511104 := by omega
          have HLD := Lib.hid (HLAW.out d (by omega) hlt)
          have HAX := Lib.hid (la_at18 Zx Ax cx d wo (by omega) (sl_bel HSXA.out HB.out))
          obtain ⟨⟨q0, q1, q2, q3, q4⟩, hq⟩ : ∃ x, atOf Zx d = x := ⟨_, rfl⟩
          obtain ⟨⟨p0, p1, p2, p3, p4⟩, hp⟩ : ∃ x, atOf Zy d = x := ⟨_, rfl⟩
          have HPY := Lib.hid hp
          rw [hq, hp] at HLD
          rw [hq] at HAX
          clear hd hq hp C0 C1 S0
          go_wp2_with fail
          refine HAX.out.mono ?_
          rintro e w3 ⟨rfl, hb3⟩
          obtain ⟨vb, hvb⟩ : ∃ z, w3.heap.size = z := ⟨_, rfl⟩
          obtain ⟨w4, hw4⟩ : ∃ z, w3.alloc (.cells #[.int .i64 q0, .int .i64 q1, .int .i64 q2, .int .i64 q3, .int .i64 q4] 48) = z := ⟨_, rfl⟩
          have hb34 : Below w3.heap.size w3 w4 := by rw [← hw4]; exact bAlloc _ _
          have hkv : Bk vb 48 #[.int .i64 q0, .int .i64 q1, .int .i64 q2, .int .i64 q3, .int .i64 q4] w4 := by rw [← hw4, ← hvb]; exact Bk.new _ _ _
          have HKV := Lib.hid hkv
          have HB4 : Hid (Below wa.heap.size wa w4) := Lib.hid (bTrans HB.out (bTrans hb3 hb34))
          have HVG : Hid (wa.heap.size ≤ vb) := Lib.hid (by rw [← hvb]; exact (bTrans HB.out hb3).size)
          have HE := Lib.hid (And.intro hvb hw4)
          clear hvb hw4 hb34 hkv hb3 HAX HB S1
          go_upto_region 18 with fail
          rw [HE.out.1, HE.out.2]
          clear HE
          obtain ⟨⟨K0, K1, K2, K3, K4, K5, K6, K7⟩, S0, S1⟩ := HKA.out _ HB4.out
          obtain ⟨ib, hib⟩ : ∃ b, inB f d = b := ⟨_, rfl⟩
          have HIB : Hid ((decide (f.fr ≤ d) && ((f.to == 0) || decide (d < f.to))) = ib) := Lib.hid hib
          rw [hib] at HLD
          clear hib
          go_cut [130] from 116 to 130 (fun v wx => v = .bool ib ∧ w4 = wx)
          case first =>
            obtain ⟨x1, d1⟩ : ∃ z, decide (f.fr ≤ d) = z := ⟨_, rfl⟩
            obtain ⟨x2, d2⟩ : ∃ z, (f.to == 0) = z := ⟨_, rfl⟩
            obtain ⟨x3, d3⟩ : ∃ z, decide (d < f.to) = z := ⟨_, rfl⟩
            rw [d1, d2, d3] at HIB
            cases x1
            rotate_left 1
            cases x2
            cases x3
            all_goals
              obtain rfl := HIB.out
              clear HIB
              go_wp2
              go_meet
              exact ⟨rfl, rfl⟩
          case rest =>
          obtain ⟨rfl, rfl⟩ := hcut
          have HVF : Hid (fb < vb ∧ nb < vb) := Lib.hid ⟨by
            have h1 := HVG.out
            have h2 := cell_lt K0
            have h3 := HFB.out.1
            omega, by
            have h1 := HVG.out
            have h3 := HFB.out.2
            omega⟩
          clear K0 K1 K2 K3 K4 K5 K7 S0 S1
          go_upto_if 130 with fail
          go_cut [18] from 131 to 136 (fun pv wx => pv = .pointer (some ⟨vb, 0, none⟩) ∧ Hid (Bk vb 48 #[.int .i64 p0, .int .i64 p1, .int .i64 p2, .int .i64 p3, .int .i64 p4] wx) ∧ Hid (Below wa.heap.size wa wx))
          case first =>
            cases ib with
            | false =>
              have hpq := HLD.out
              rw [if_neg (by simp)] at hpq
              injection hpq with h0 h1 h2 h3 h4
              subst h0; subst h1; subst h2; subst h3; subst h4
              clear K6
              go_wp2
              go_meet
              exact ⟨rfl, HKV, HB4⟩
            | true =>
              have hpq := HLD.out
              rw [if_pos rfl] at hpq
              injection hpq with h0 h1 h2 h3 h4
              subst h0; subst h1; subst h2; subst h3; subst h4
              have HKP : Hid (∀ W, Below w4.heap.size w4 W → (W.cell? ⟨fb, 6, none⟩ = some (.int .i64 f.nu) ∧ W.cell? ⟨nb, 0, none⟩ = some (.slice A3 N.length c3)) ∧ Bk vb 48 #[.int .i64 q0, .int .i64 q1, .int .i64 q2, .int .i64 q3, .int .i64 q4] W) := Lib.hid fun W hW => ⟨⟨(HKA.out W (bTrans HB4.out hW)).1.2.2.2.2.2.2.1, (HCA.out W (bTrans HB4.out hW)).2.1⟩, bkB HKV.out hW⟩
              go_upto_region 19 with fail
              refine wp_region_rel (SPS [(15, Sp.val (.int .i64 p2)), (4, Sp.val (.pointer (some ⟨fb, 0, none⟩))), (9, Sp.val (.pointer (some ⟨nb, 0, none⟩))), (18, Sp.val (.pointer (some ⟨vb, 0, none⟩))), (132, Sp.val (.pointer (some ⟨fb, 6, none⟩))), (133, Sp.val (.int .i64 f.nu)), (134, Sp.val (.agg #[.slice A3 N.length c3])), (135, Sp.val (.int .i64 N.length)), (136, Sp.val (.agg #[.int .i64 0, .int .i64 0, .int .i64 p2, .int .i64 f.nu, .int .i64 N.length])), (131, Sp.val (.int .i64 p2))]) [] (fun W => Below w4.heap.size w4 W) 6 [131, 132, 133, 134, 135, 136] rfl (by rfl) (by kernel_rfl) (by kernel_rfl) (.store 48 (.tmp 18) (.tmp 136)) (fun o ho => by cases ho; exact ⟨rfl, rfl, rfl⟩) (by rfl) ?_ ?_ (opsK_all ?_) ?_
              · exact bDrew w4
              · exact sps_start (cons_all rfl (cons_all rfl (cons_all rfl (cons_all rfl (nil_all)))))
              · refine opsK_cons (by
                 exact rel_n (rel_s (fun _ _ h k => bTrans h k) [] (fun w1 hR1 => opOk_move rfl rfl (.inl rfl) (by kernel_rfl) (fun _ _ h => sps rfl (h.get rfl))) (by kernel_rfl) (by rfl))) ?_
                refine opsK_cons (by
                 exact rel_n (rel_s (fun _ _ h k => bTrans h k) [] (fun w1 hR1 => opOk_run rfl (.inl rfl) (fun a W hW hsp => by
                    have e4 : a.eval (.tmp 4) = .pointer (some ⟨fb, 0, none⟩) := (hsp 4 (by kernel_rfl)).get rfl
                    refine ⟨.pointer (some ⟨fb, 6, none⟩), ?_, sps rfl rfl⟩
                    unfold execOp
                    simp only [e4]
                    go_simp)) (by kernel_rfl) (by rfl))) ?_
                refine opsK_cons (by
                 exact rel_n (rel_s (fun _ _ h k => bTrans h k) [] (fun w1 hR1 => opOk_load (p := ⟨fb, 6, none⟩) rfl rfl (.inl rfl) (by kernel_rfl) (fun _ _ h => h.get rfl) (fun W hW => by
                    obtain ⟨⟨k6, c1⟩, _⟩ := HKP.out _ (bTrans hR1 hW)
                    exact ⟨.int .i64 f.nu, by go_simp, sps rfl rfl⟩)) (by kernel_rfl) (by rfl))) ?_
                refine opsK_cons (by
                 exact rel_n (rel_s (fun _ _ h k => bTrans h k) [] (fun w1 hR1 => opOk_load (p := ⟨nb, 0, none⟩) rfl rfl (.inl rfl) (by kernel_rfl) (fun _ _ h => h.get rfl) (fun W hW => by
                    obtain ⟨⟨k6, c1⟩, _⟩ := HKP.out _ (bTrans hR1 hW)
                    exact ⟨.agg #[.slice A3 N.length c3], by go_simp, sps rfl rfl⟩)) (by kernel_rfl) (by rfl))) ?_
                refine opsK_cons (by
                 exact rel_n (rel_s (fun _ _ h k => bTrans h k) [] (fun w1 hR1 => opOk_callg (fun a => #[a.eval (.tmp 134)]) rfl rfl (.inl rfl) (fun a => by simp only [List.map_toArray, List.map_cons, List.map_nil] <;> rfl) (fun args W => by go_simp) (fun a W hW hsp => by
                    have e134 : a.eval (.tmp 134) = .agg #[.slice A3 N.length c3] := (hsp 134 (by kernel_rfl)).get rfl
                    simp only [e134]
                    exact (HLEN.out _).mono fun e w' ⟨he, hb⟩ => ⟨_, he, hb, sps rfl rfl⟩)) (by kernel_rfl) (by rfl))) ?_
                refine opsK_cons (by
                 exact rel_n (rel_s (fun _ _ h k => bTrans h k) [] (fun w1 hR1 => opOk_run rfl (.inl rfl) (fun a W hW hsp => by
                    have e131 : a.eval (.tmp 131) = .int .i64 p2 := (hsp 131 (by kernel_rfl)).get rfl
                    have e133 : a.eval (.tmp 133) = .int .i64 f.nu := (hsp 133 (by kernel_rfl)).get rfl
                    have e135 : a.eval (.tmp 135) = .int .i64 N.length := (hsp 135 (by kernel_rfl)).get rfl
                    have q131 : a.tmps[131]?.getD undef = .int .i64 p2 := by rw [← Array.getD_eq_getD_getElem?]; exact e131
                    have q133 : a.tmps[133]?.getD undef = .int .i64 f.nu := by rw [← Array.getD_eq_getD_getElem?]; exact e133
                    have q135 : a.tmps[135]?.getD undef = .int .i64 N.length := by rw [← Array.getD_eq_getD_getElem?]; exact e135
                    refine ⟨.agg #[.int .i64 0, .int .i64 0, .int .i64 p2, .int .i64 f.nu, .int .i64 N.length], ?_, sps rfl rfl⟩
                    unfold execOp
                    go_simp)) (by kernel_rfl) (by rfl))) ?_
                refine opsK_cons (by
                 exact rel_l) ?_
                exact opsK_nil
              · intro oL hoL hdL vs W hR hsp
                have z18 : vs 18 = .pointer (some ⟨vb, 0, none⟩) := (hsp 18 (by simp)).get rfl
                have z136 : vs 136 = .agg #[.int .i64 0, .int .i64 0, .int .i64 p2, .int .i64 f.nu, .int .i64 N.length] := (hsp 136 (by simp)).get rfl
                have hkw := (HKP.out W hR).2
                clear hsp
                refine wp_store_ab (d := 18) (s := 136) (x0 := 0) (x1 := 0) (x2 := p2) (x3 := f.nu) (x4 := (N.length : Int)) hoL ?_ ?_ hkw ?_
                · simp only [putAll]
                  go_simp
                · simp only [putAll]
                  go_simp
                intro w' hk' hg'
                have HKN := Lib.hid hk'
                have HBN : Hid (Below wa.heap.size wa w') := Lib.hid ((bTrans HB4.out hR).grown hg' (bTrans HB4.out hR).size (fun j hj => by cases hj; exact HVG.out))
                clear hk' hg' z136 hkw
                rw [hdL]
                simp only [putAll]
                go_simp
                go_step
                go_meet
                exact ⟨by first | rfl | exact z18, HKN, HBN⟩
          case rest =>
          obtain ⟨rfl, HKW, HB5⟩ := hcut
          obtain ⟨w5, rfl⟩ : ∃ x : World, x = wc := ⟨_, rfl⟩
          have HKD : Hid (∀ W, Below w5.heap.size w5 W → Bk vb 48 #[.int .i64 p0, .int .i64 p1, .int .i64 p2, .int .i64 p3, .int .i64 p4] W) := Lib.hid fun W hW => bkB HKW.out hW
          have HAY : Hid (∀ W, Below w5.heap.size w5 W → Calls Tryz.prog 14 #[.slice Ay Zy.length cy, .int .i64 d] W fun e w' => e = .returned (.agg #[.int .i64 p0, .int .i64 p1, .int .i64 p2, .int .i64 p3, .int .i64 p4]) ∧ Below W.heap.size W w') := Lib.hid fun W hW => by
            have h := la_at18 Zy Ay cy d W (by omega) (sl_bel HSY.out (bTrans HB5.out hW))
            rw [HPY.out] at h
            exact h
          clear HKW HKV HB4 HLD HIB HPY K6 HVF
          go_upto_region 20 with fail
          go_cut [142] from 137 to 142 (fun v wx => v = .bool false ∧ Hid (Below w5.heap.size w5 wx))
          case first =>
            refine wp_region_use (SPS [(14, Sp.val (.func (.func 14) #[] #[])), (12, Sp.val (.slice Ay Zy.length cy)), (17, Sp.val (.int .i64 d)), (18, Sp.val (.pointer (some ⟨vb, 0, none⟩))), (140, Sp.val (.agg #[.int .i64 p0, .int .i64 p1, .int .i64 p2, .int .i64 p3, .int .i64 p4])), (141, Sp.val (.agg #[.int .i64 p0, .int .i64 p1, .int .i64 p2, .int .i64 p3, .int .i64 p4])), (142, Sp.val (.bool false)), (137, Sp.val (.func (.func 14) #[] #[])), (138, Sp.val (.slice Ay Zy.length cy)), (139, Sp.val (.int .i64 d))]) [] [137, 138, 139, 140, 141, 142] rfl (by rfl) (by kernel_rfl) (SPS.st _) (by rfl) ?_ (opsK_all ?_) ?_
            · exact sps_start (cons_all rfl (cons_all rfl (cons_all rfl (cons_all rfl (nil_all)))))
            · refine opsK_cons (by
               exact use_s [] (opOk_move rfl rfl (.inl rfl) (by kernel_rfl) (fun _ _ h => sps rfl (h.get rfl))) (by kernel_rfl) (by rfl)) ?_
              refine opsK_cons (by
               exact use_s [] (opOk_move rfl rfl (.inl rfl) (by kernel_rfl) (fun _ _ h => sps rfl (h.get rfl))) (by kernel_rfl) (by rfl)) ?_
              refine opsK_cons (by
               exact use_s [] (opOk_move rfl rfl (.inl rfl) (by kernel_rfl) (fun _ _ h => sps rfl (h.get rfl))) (by kernel_rfl) (by rfl)) ?_
              refine opsK_cons (by
               exact use_s [] (opOk_callv (f := 14) (fun a => #[a.eval (.tmp 138), a.eval (.tmp 139)]) rfl rfl (.inl rfl) (by kernel_rfl) (fun _ _ h => h.get rfl) (fun a => by simp only [List.map_toArray, List.map_cons, List.map_nil] <;> rfl) (fun args W => by go_simp) (fun a W hW hsp => by
                  have e138 : a.eval (.tmp 138) = .slice Ay Zy.length cy := (hsp 138 (by kernel_rfl)).get rfl
                  have e139 : a.eval (.tmp 139) = .int .i64 d := (hsp 139 (by kernel_rfl)).get rfl
                  simp only [e138, e139]
                  exact (HAY.out _ hW).mono fun e w2 ⟨he, hb⟩ => ⟨_, he, hb, sps rfl rfl⟩)) (by kernel_rfl) (by rfl)) ?_
              refine opsK_cons (by
               exact use_s [] (opOk_load (p := ⟨vb, 0, none⟩) rfl rfl (.inl rfl) (by kernel_rfl) (fun _ _ h => h.get rfl) (fun W hW => by
                  have hv := HKD.out _ hW; have V0 : W.cell? ⟨vb, 0, none⟩ = some (.int .i64 p0) := hv.cell 0; have V1 : W.cell? ⟨vb, 1, none⟩ = some (.int .i64 p1) := hv.cell 1; have V2 : W.cell? ⟨vb, 2, none⟩ = some (.int .i64 p2) := hv.cell 2; have V3 : W.cell? ⟨vb, 3, none⟩ = some (.int .i64 p3) := hv.cell 3; have V4 : W.cell? ⟨vb, 4, none⟩ = some (.int .i64 p4) := hv.cell 4; clear hv
                  exact ⟨.agg #[.int .i64 p0, .int .i64 p1, .int .i64 p2, .int .i64 p3, .int .i64 p4], by go_simp, sps rfl rfl⟩)) (by kernel_rfl) (by rfl)) ?_
              refine opsK_cons (by
               exact use_s [] (opOk_run rfl (.inl rfl) (fun a W hW hsp => by
                  have e140 : a.eval (.tmp 140) = .agg #[.int .i64 p0, .int .i64 p1, .int .i64 p2, .int .i64 p3, .int .i64 p4] := (hsp 140 (by kernel_rfl)).get rfl
                  have e141 : a.eval (.tmp 141) = .agg #[.int .i64 p0, .int .i64 p1, .int .i64 p2, .int .i64 p3, .int .i64 p4] := (hsp 141 (by kernel_rfl)).get rfl
                  refine ⟨.bool false, ?_, sps rfl rfl⟩
                  unfold execOp
                  simp only [e140, e141]
                  go_simp)) (by kernel_rfl) (by rfl)) ?_
              exact opsK_nil
            · intro vs W3 hb hsp
              have z := (hsp 142 (by simp)).get rfl
              simp only [putAll]
              go_simp
              go_step
              go_meet
              exact ⟨by first | rfl | exact z, Lib.hid hb⟩
          case rest =>
          obtain ⟨rfl, HB6⟩ := hcut
          have HBN : Hid (Below wa.heap.size wa wc) := Lib.hid (bTrans HB5.out HB6.out)
          clear HB6 HB5 HAY HKD
          go_wp2
          exact ⟨⟨j + 1, .inr (by have := HDE.out; omega), by have := HDE.out; congr 1; omega, HBN⟩, by simp [intOf]; omega⟩
        · have HFI : Hid (Below w.heap.size w wo) := Lib.hid (bTrans HB0.out (bTrans HB8.out (bTrans HB8A.out HB.out)))
          clear C0 C1 S0 hd
          go_wp2_with fail
          refine (HAW.out _ HFI.out).mono ?_
          rintro e w6 ⟨rfl, hb6⟩
          have HFF := Lib.hid (bTrans HFI.out hb6)
          clear hb6
          go_wp2
          go_ret
          exact ⟨rfl, HFF.out⟩
    · have henq : (en != 0) = true := bne_iff_ne.2 hen
      clear hen
      go_wp2_with fail
      refine HAW8.out.mono ?_
      rintro e w9 ⟨rfl, hb9⟩
      have HFF := Lib.hid (bTrans HB0.out (bTrans HB8.out hb9))
      clear hb9
      go_wp2
      go_ret
      exact ⟨rfl, HFF.out⟩
end Go.Proofs.YtmngghglcgmkeaaGreatDoor
