import Derived.Test.YtlgoaohklggcdaaGreatDoorAbz
import Derived.Test.YtlgoaohklggcdaaGreatDoorOp9
import Derived.Test.YtlgoaohklggcdaaGreatDoorAbj
import Derived.BigQuiet
import Derived.BigRegion
import Derived.Deep.RegionHeld3
/- law18.AbsentCuts. Printed by gen/mkabn.py. -/
namespace Go.Proofs.YtlgoaohklggcdaaGreatDoor
open Go.RowKit Go.Sort

def spAr (Z : List Ab) : Sp := ⟨fun v w => ∃ A c, v = .tuple #[.slice A Z.length c, .int .i64 0] ∧ Sl encAb 5 w w.heap.size A Z, fun _ _ _ ⟨A, c, h1, h2⟩ hb => ⟨A, c, h1, sl_bel h2 hb⟩⟩
theorem few_fit {l : List Fa} (fl : ∀ f ∈ l, FitW f) (h : ∀ f ∈ l, f.ki ≠ 18 ∧ f.co.size ≤ 300 ∧ f.tx.size ≤ 300) : ∀ f ∈ l, Fit f := fun f hf => by
  have h1 := fl f hf
  have h2 := h f hf
  exact ⟨h1.id, h1.pe, h1.ki, h1.fr, h1.tO, h1.nu, by omega, by omega⟩
theorem with_cal {F U : Int} (h1 : -25567 ≤ F) (h2 : U ≤ 84006) : withB F U = true := by
  unfold withB calB
  by_cases h : U ≤ F
  · rw [decide_eq_true h]; rfl
  · rw [decide_eq_true (p := -25567 ≤ F) h1, decide_eq_true (p := F ≤ 84005) (by omega), decide_eq_true (p := -25567 ≤ U - 1) (by omega), decide_eq_true (p := U - 1 ≤ 84005) (by omega)]; simp
theorem spn2 (w : World) (c : Array Value) (t : TypeId) (d : Array Value) (u : TypeId) : Bk w.heap.size t c ((w.alloc (.cells c t)).alloc (.cells d u)).drew ∧ Bk (w.heap.size + 1) u d ((w.alloc (.cells c t)).alloc (.cells d u)).drew ∧ Below w.heap.size w ((w.alloc (.cells c t)).alloc (.cells d u)).drew := by
  obtain ⟨h1, h2, h3⟩ := bkk2 w c d t u rfl rfl rfl
  exact ⟨h1.drew, h2.drew, bTrans h3 (bDrew _)⟩
theorem bShift {P : World → Prop} {w0 w1 : World} (h : ∀ W, Below w0.heap.size w0 W → P W) (hb : Below w0.heap.size w0 w1) : ∀ W, Below w1.heap.size w1 W → P W := fun W hW => h W (bTrans hb hW)
theorem told_le (l : List Fa) : (tellL [] l).length ≤ l.length := by
  have h := tellL_len l []
  simpa using h
theorem absX_le (X : List Kn) (F U : Int) (h : X.length ≤ 4096) : (absX X F U).length ≤ 10001 := by
  unfold absX strQ
  rw [List.length_map]
  exact Nat.le_trans (List.length_filter_le _ _) (strL_len F U h)
set_option maxHeartbeats 4000000 in
set_option maxRecDepth 100000 in
theorem lw_AbsentCuts (l : List Fa) (A : Option Addr) (ca : Nat) (h : Nat → Int) (D : List Int) (AD : Option Addr) (cD : Nat) (F U md : Int) (w : World) (hl : l.length ≤ 9223372036854775807) (fl : ∀ f ∈ l, FitW f) (hL : SlF w A l) (hd : ∀ d ∈ D, -9223372036854775808 ≤ d ∧ d ≤ 9223372036854775807) (hsD : Sl encDd 1 w w.heap.size AD D) (hF : -9223372036854775808 ≤ F ∧ F ≤ 9223372036854775807) (hU : -9223372036854775808 ≤ U ∧ U ≤ 9223372036854775807) (hT : Tb w) (hC : Tab w) :
    Calls Tryz.prog 13 #[.slice A l.length ca, .agg #[.int .i64 (h 0), .int .i64 (h 1), .int .i64 (h 2), .int .i64 (h 3), .int .i64 (h 4), .int .i64 (h 5), .int .i64 (h 6), .slice AD D.length cD], .agg #[.int .i64 F, .int .i64 U], .int .i64 md] w fun e w' => e = .returned (.bool true) ∧ Below w.heap.size w w' := by
  have HAW : Hid (∀ W, Below w.heap.size w W → Calls Tryz.prog 32 #[] W fun e w' => e = .returned (.bool true) ∧ Below W.heap.size W w') := Lib.hid fun W hW => la_awake18 W (hT.below hW) (tabW hC hW)
  obtain ⟨pb, hpb⟩ : ∃ z, w.heap.size = z := ⟨_, rfl⟩
  obtain ⟨sb, hsb⟩ : ∃ z, pb + 1 = z := ⟨_, rfl⟩
  obtain ⟨w2, hw2⟩ : ∃ z, (w.alloc (.cells #[.int .i64 (h 0), .int .i64 (h 1), .int .i64 (h 2), .int .i64 (h 3), .int .i64 (h 4), .int .i64 (h 5), .int .i64 (h 6), .slice AD D.length cD] 85)).alloc (.cells #[.int .i64 F, .int .i64 U] 31) = z := ⟨_, rfl⟩
  obtain ⟨k1, k2, hb2⟩ := bkk2 w _ _ _ _ hpb hsb hw2
  have HB2 := Lib.hid hb2
  have HKC : Hid (∀ W, Below w2.heap.size w2 W → (W.cell? ⟨pb, 0, none⟩ = some (.int .i64 (h 0)) ∧ W.cell? ⟨pb, 1, none⟩ = some (.int .i64 (h 1)) ∧ W.cell? ⟨pb, 2, none⟩ = some (.int .i64 (h 2)) ∧ W.cell? ⟨pb, 3, none⟩ = some (.int .i64 (h 3)) ∧ W.cell? ⟨pb, 4, none⟩ = some (.int .i64 (h 4)) ∧ W.cell? ⟨pb, 5, none⟩ = some (.int .i64 (h 5)) ∧ W.cell? ⟨pb, 6, none⟩ = some (.int .i64 (h 6)) ∧ W.cell? ⟨pb, 7, none⟩ = some (.slice AD D.length cD)) ∧ W.cell? ⟨sb, 0, none⟩ = some (.int .i64 F) ∧ W.cell? ⟨sb, 1, none⟩ = some (.int .i64 U)) := Lib.hid fun W hW =>
    ⟨⟨bCell hW (k1.cell 0), bCell hW (k1.cell 1), bCell hW (k1.cell 2), bCell hW (k1.cell 3), bCell hW (k1.cell 4), bCell hW (k1.cell 5), bCell hW (k1.cell 6), bCell hW (k1.cell 7)⟩, bCell hW (k2.cell 0), bCell hW (k2.cell 1)⟩
  have HFE := Lib.hid (la_few l A ca w2 hl (hL.below hb2))
  have HLO := Lib.hid (fun W => la_long F U 500 W hF hU (by omega))
  have HTD : Hid ((∀ f ∈ l, Fit f) → l.length ≤ 30 → ∀ W, Below w2.heap.size w2 W → Calls Tryz.prog 37 #[.slice A l.length ca, .int .u32 1] W (TolR l 1 W)) := Lib.hid fun hf h30 W hW => la_told18 l A ca 1 W (by omega) hf (hL.below (bTrans hb2 hW)) ((hT.below hb2).below hW)
  have HFI : Hid (∀ (h : ∀ f ∈ l, f.ki ≠ 18 ∧ f.co.size ≤ 300 ∧ f.tx.size ≤ 300), ∀ f ∈ l, Fit f) := Lib.hid fun h => few_fit fl h
  have HSD2 := Lib.hid (sl_bel hsD hb2)
  have HC2 := Lib.hid (tabW hC hb2)
  have HD := Lib.hid hd
  have HE := Lib.hid (And.intro hpb (And.intro hsb hw2))
  clear hpb hsb hw2 k1 k2 hb2 hsD hT hC hd hL fl
  go_enter Tryz.func13, Tryz.ntmps13
  go_upto_region 1 with fail
  rw [HE.out.1, HE.out.2.1, HE.out.2.2]
  clear HE
  go_wp2_with fail
  refine HFE.out.mono ?_
  rintro e w3 ⟨fw, rfl, hfw, hb3⟩
  have HB3 := Lib.hid hb3
  have HFW := Lib.hid hfw
  clear hb3 hfw HFE
  cases fw with
  | false =>
    go_wp2_with fail
    refine (HAW.out _ (bTrans HB2.out HB3.out)).mono ?_
    rintro e w4 ⟨rfl, hb4⟩
    have HF := Lib.hid (bTrans HB2.out (bTrans HB3.out hb4))
    clear hb4
    go_wp2
    go_ret
    exact ⟨rfl, HF.out⟩
  | true =>
    have HFW1 := Lib.hid (HFW.out rfl)
    obtain ⟨⟨K0, K1, K2, K3, K4, K5, K6, K7⟩, S0, S1⟩ := HKC.out _ HB3.out
    have HLO3 := Lib.hid (HLO.out w3)
    clear HFW HLO
    go_wp2_with fail
    refine HLO3.out.mono ?_
    rintro e w4 ⟨lb, rfl, hlb, hb4⟩
    have HB4 := Lib.hid (bTrans HB3.out hb4)
    have HLB := Lib.hid hlb
    clear hb4 hlb HLO3 K0 K1 K2 K3 K4 K5 K6 K7 S0 S1
    obtain ⟨⟨K0, K1, K2, K3, K4, K5, K6, K7⟩, S0, S1⟩ := HKC.out _ HB4.out
    have HAW4 := Lib.hid (HAW.out _ (bTrans HB2.out HB4.out))
    by_cases hbad : lb = true ∨ F < -25567 ∨ 84006 < U ∨ md < F ∨ U < md ∨ (30 : Int) < (D.length : Int)
    · have hcs : lb = true ∨ (lb = false ∧ F < -25567) ∨ (lb = false ∧ ¬ F < -25567 ∧ 84006 < U) ∨ (lb = false ∧ ¬ F < -25567 ∧ ¬ 84006 < U ∧ md < F) ∨ (lb = false ∧ ¬ F < -25567 ∧ ¬ 84006 < U ∧ ¬ md < F ∧ U < md) ∨ (lb = false ∧ ¬ F < -25567 ∧ ¬ 84006 < U ∧ ¬ md < F ∧ ¬ U < md ∧ (30 : Int) < (D.length : Int)) := by
        cases lb with
        | true => exact .inl rfl
        | false =>
          have hq : (false = true) ↔ False := by simp
          rw [hq] at hbad
          simp only [false_or, true_and] at hbad ⊢
          omega
      clear hbad HLB
      rcases hcs with rfl | ⟨rfl, q1⟩ | ⟨rfl, q1, q2⟩ | ⟨rfl, q1, q2, q3⟩ | ⟨rfl, q1, q2, q3, q4⟩ | ⟨rfl, q1, q2, q3, q4, q5⟩
      all_goals
        go_wp2_with fail
        refine HAW4.out.mono ?_
        rintro e w5 ⟨rfl, hb5⟩
        have HF := Lib.hid (bTrans HB2.out (bTrans HB4.out hb5))
        clear hb5
        go_wp2
        go_ret
        exact ⟨rfl, HF.out⟩
    obtain ⟨q1, q2, q3, q4, q5⟩ : ¬ F < -25567 ∧ ¬ 84006 < U ∧ ¬ md < F ∧ ¬ U < md ∧ ¬ (30 : Int) < (D.length : Int) := ⟨fun e => hbad (.inr (.inl e)), fun e => hbad (.inr (.inr (.inl e))), fun e => hbad (.inr (.inr (.inr (.inl e)))), fun e => hbad (.inr (.inr (.inr (.inr (.inl e))))), fun e => hbad (.inr (.inr (.inr (.inr (.inr e)))))⟩
    have hlf : lb = false := by
      cases lb with
      | true => exact absurd (.inl rfl) hbad
      | false => rfl
    subst hlf
    have HFU := Lib.hid (HLB.out rfl)
    have HTD4 := Lib.hid (HTD.out (HFI.out HFW1.out.1) HFW1.out.2 _ HB4.out)
    obtain ⟨T, hTT⟩ : ∃ T, tellL [] l = T := ⟨_, rfl⟩
    have hTl : T.length ≤ 30 := by rw [← hTT]; exact Nat.le_trans (told_le l) HFW1.out.2
    have HTE := Lib.hid hTT
    clear hbad HLB HTD HFI hTT HAW4
    go_wp2_with fail
    refine HTD4.out.mono ?_
    rintro e w5 ⟨⟨A2, c2, Am, cm, rfl, hc2, hs5, _⟩, hb5⟩
    rw [HTE.out] at hc2 hs5 ⊢
    obtain ⟨mn, hmn⟩ : ∃ n, (toMs 1 T).length = n := ⟨_, rfl⟩
    rw [hmn]
    clear hmn
    obtain ⟨tb, htb⟩ : ∃ z, w5.heap.size = z := ⟨_, rfl⟩
    obtain ⟨w6, hw6⟩ : ∃ z, w5.alloc (.cells #[.slice A2 T.length c2] 96) = z := ⟨_, rfl⟩
    have hb56 : Below w5.heap.size w5 w6 := by rw [← hw6]; exact bAlloc _ _
    have HK6 : Hid (Bk tb 96 #[.slice A2 T.length c2] w6) := Lib.hid (by rw [← hw6, ← htb]; exact Bk.new _ _ _)
    have HB6 : Hid (Below w2.heap.size w2 w6) := Lib.hid (bTrans HB4.out (bTrans hb5 hb56))
    have HC4 : Hid (∀ W, Below w6.heap.size w6 W → W.cell? ⟨tb, 0, none⟩ = some (.slice A2 T.length c2) ∧ W.cell? ⟨sb, 0, none⟩ = some (.int .i64 F) ∧ W.cell? ⟨sb, 1, none⟩ = some (.int .i64 U)) := Lib.hid fun W hW => ⟨bCell hW (HK6.out.cell 0), (HKC.out W (bTrans HB6.out hW)).2⟩
    have HAT : Hid (∀ W, Calls Tryz.prog 40 #[.agg #[.slice A2 T.length c2], .int .i64 T.length] W fun e w' => e = .returned (.agg #[.slice A2 T.length T.length]) ∧ Below W.heap.size W w') := Lib.hid fun W => by
      have h := st_At T A2 c2 T.length W (by omega) hc2
      have e : atN T (T.length : Int) = T.length := by unfold atN; simp
      rwa [e] at h
    obtain ⟨Z, hZ⟩ : ∃ Z, absX (kA T 1) F U = Z := ⟨_, rfl⟩
    have hkl : (kA T 1).length ≤ 4096 := Nat.le_trans (chosen_len _ _ _) (by omega)
    have hZl : Z.length ≤ 10001 := by rw [← hZ]; exact absX_le _ _ _ hkl
    have HRI : Hid (riseA U F Z) := Lib.hid (by rw [← hZ]; exact absX_rise _ (by omega))
    have HOF : Hid (∀ W, Below w6.heap.size w6 W → Calls Tryz.prog 39 #[.agg #[.slice A2 T.length T.length], .int .u32 1, .agg #[.int .i64 F, .int .i64 U]] W fun e w' => (∃ A c, e = .returned (.tuple #[.slice A Z.length c, .int .i64 0]) ∧ Sl encAb 5 w' w'.heap.size A Z) ∧ Below W.heap.size W w') := Lib.hid fun W hW => by
      have h := ab_Of T A2 T.length 1 F U W (by omega) (hs5.below (bTrans hb56 hW)) hF hU
      refine h.mono fun e w' ⟨h1, h2⟩ => ⟨?_, h2⟩
      rw [if_pos (with_cal (by omega) (by omega)), hZ] at h1
      obtain ⟨A', c', he, ho⟩ := h1
      obtain ⟨A3, c3, e3, _, h4⟩ := own_sl encAb_len ho
      injection e3 with e3 _ _
      rw [← e3] at h4
      exact ⟨A', c', he, h4⟩
    have HE := Lib.hid (And.intro htb hw6)
    clear htb hw6 hb5 hb56 hs5 hc2 HTD4 hZ hkl K0 K1 K2 K3 K4 K5 K6 K7 S0 S1 HTE
    go_upto_region 4 with fail
    rw [HE.out.1, HE.out.2]
    clear HE
    go_cut [11, 12] from 62 to 70 (fun lv ev wx => (∃ Az cz, lv = .slice Az Z.length cz ∧ Hid (Sl encAb 5 wx wx.heap.size Az Z)) ∧ ev = .int .i64 0 ∧ Hid (Below w6.heap.size w6 wx))
    case first =>
      refine wp_region_use (SPS [(9, Sp.val (.pointer (some ⟨tb, 0, none⟩))), (6, Sp.val (.pointer (some ⟨sb, 0, none⟩))), (63, Sp.val (.agg #[.slice A2 T.length c2])), (64, Sp.val (.agg #[.slice A2 T.length c2])), (65, Sp.val (.int .i64 T.length)), (66, Sp.val (.agg #[.slice A2 T.length T.length])), (67, Sp.val (.agg #[.int .i64 F, .int .i64 U])), (68, (spAr Z)), (62, (spAr Z)), (69, (spSl encAb 5 Z)), (70, Sp.val (.int .i64 0)), (11, (spSl encAb 5 Z)), (12, Sp.val (.int .i64 0))]) [] [63, 64, 65, 66, 67, 68, 62, 69, 70, 11, 12] rfl (by rfl) (by kernel_rfl) (SPS.st _) (by rfl) ?_ (opsK_all ?_) ?_
      · exact sps_start (cons_all rfl (cons_all rfl (nil_all)))
      · refine opsK_cons (by
         exact use_s [] (opOk_load (p := ⟨tb, 0, none⟩) rfl rfl (.inl rfl) (by kernel_rfl) (fun _ _ h => h.get rfl) (fun W hW => by
            obtain ⟨k0, k1, k2⟩ := HC4.out _ hW
            exact ⟨.agg #[.slice A2 T.length c2], by go_simp, sps rfl rfl⟩)) (by kernel_rfl) (by rfl)) ?_
        refine opsK_cons (by
         exact use_s [] (opOk_load (p := ⟨tb, 0, none⟩) rfl rfl (.inl rfl) (by kernel_rfl) (fun _ _ h => h.get rfl) (fun W hW => by
            obtain ⟨k0, k1, k2⟩ := HC4.out _ hW
            exact ⟨.agg #[.slice A2 T.length c2], by go_simp, sps rfl rfl⟩)) (by kernel_rfl) (by rfl)) ?_
        refine opsK_cons (by
         exact use_s [] (opOk_callg (fun a => #[a.eval (.tmp 64)]) rfl rfl (.inl rfl) (fun a => by simp only [List.map_toArray, List.map_cons, List.map_nil] <;> rfl) (fun args W => by go_simp) (fun a W hW hsp => by
            have e64 : a.eval (.tmp 64) = .agg #[.slice A2 T.length c2] := (hsp 64 (by kernel_rfl)).get rfl
            simp only [e64]
            exact (st_Len A2 T.length c2 _).mono fun e w' ⟨he, hb⟩ => ⟨_, he, hb, sps rfl rfl⟩)) (by kernel_rfl) (by rfl)) ?_
        refine opsK_cons (by
         exact use_s [] (opOk_callg (fun a => #[a.eval (.tmp 63), a.eval (.tmp 65)]) rfl rfl (.inl rfl) (fun a => by simp only [List.map_toArray, List.map_cons, List.map_nil] <;> rfl) (fun args W => by go_simp) (fun a W hW hsp => by
            have e63 : a.eval (.tmp 63) = .agg #[.slice A2 T.length c2] := (hsp 63 (by kernel_rfl)).get rfl
            have e65 : a.eval (.tmp 65) = .int .i64 T.length := (hsp 65 (by kernel_rfl)).get rfl
            simp only [e63, e65]
            exact (HAT.out _).mono fun e w' ⟨he, hb⟩ => ⟨_, he, hb, sps rfl rfl⟩)) (by kernel_rfl) (by rfl)) ?_
        refine opsK_cons (by
         exact use_s [] (opOk_load (p := ⟨sb, 0, none⟩) rfl rfl (.inl rfl) (by kernel_rfl) (fun _ _ h => h.get rfl) (fun W hW => by
            obtain ⟨k0, k1, k2⟩ := HC4.out _ hW
            exact ⟨.agg #[.int .i64 F, .int .i64 U], by go_simp, sps rfl rfl⟩)) (by kernel_rfl) (by rfl)) ?_
        refine opsK_cons (by
         exact use_s [] (opOk_callg (fun a => #[a.eval (.tmp 66), .int .u32 1, a.eval (.tmp 67)]) rfl rfl (.inl rfl) (fun a => by simp only [List.map_toArray, List.map_cons, List.map_nil] <;> rfl) (fun args W => by go_simp) (fun a W hW hsp => by
            have e66 : a.eval (.tmp 66) = .agg #[.slice A2 T.length T.length] := (hsp 66 (by kernel_rfl)).get rfl
            have e67 : a.eval (.tmp 67) = .agg #[.int .i64 F, .int .i64 U] := (hsp 67 (by kernel_rfl)).get rfl
            simp only [e66, e67]
            exact (HOF.out _ hW).mono fun e w' ⟨⟨A, c, he, hs⟩, hb⟩ => ⟨_, he, hb, sps rfl ⟨A, c, rfl, hs⟩⟩)) (by kernel_rfl) (by rfl)) ?_
        refine opsK_cons (by
         exact use_s [] (opOk_move rfl rfl (.inl rfl) (by kernel_rfl) (fun _ _ h => sps rfl (h.get rfl))) (by kernel_rfl) (by rfl)) ?_
        refine opsK_cons (by
         exact use_s [] (opOk_run rfl (.inl rfl) (fun a W hW hsp => by
            obtain ⟨A62, c62, hv, hs62⟩ := (hsp 62 (by kernel_rfl)).get rfl
            have e62 : a.eval (.tmp 62) = .tuple #[.slice A62 Z.length c62, .int .i64 0] := hv
            refine ⟨.slice A62 Z.length c62, ?_, sps rfl ⟨A62, c62, rfl, hs62⟩⟩
            unfold execOp
            simp only [e62]
            go_simp)) (by kernel_rfl) (by rfl)) ?_
        refine opsK_cons (by
         exact use_s [] (opOk_run rfl (.inl rfl) (fun a W hW hsp => by
            obtain ⟨A62, c62, hv, hs62⟩ := (hsp 62 (by kernel_rfl)).get rfl
            have e62 : a.eval (.tmp 62) = .tuple #[.slice A62 Z.length c62, .int .i64 0] := hv
            refine ⟨.int .i64 0, ?_, sps rfl rfl⟩
            unfold execOp
            simp only [e62]
            go_simp)) (by kernel_rfl) (by rfl)) ?_
        refine opsK_cons (by
         exact use_s [] (opOk_assign rfl rfl (.inl rfl) (by kernel_rfl) (fun _ _ h => sps rfl (h.get rfl))) (by kernel_rfl) (by rfl)) ?_
        refine opsK_cons (by
         exact use_s [] (opOk_assign rfl rfl (.inl rfl) (by kernel_rfl) (fun _ _ h => sps rfl (h.get rfl))) (by kernel_rfl) (by rfl)) ?_
        exact opsK_nil
      · intro vs W3 hb hsp
        obtain ⟨A11, c11, z11, hs11⟩ := (hsp 11 (by simp)).get rfl
        have z12 := (hsp 12 (by simp)).get rfl
        simp only [putAll]
        go_simp
        go_step
        go_meet
        exact ⟨⟨A11, c11, by first | rfl | exact z11, Lib.hid hs11⟩, by first | rfl | exact z12, Lib.hid hb⟩
    case rest =>
    obtain ⟨⟨Az, cz, rfl, HSZ⟩, rfl, HB7⟩ := hcut
    obtain ⟨w7, rfl⟩ : ∃ x : World, x = wc := ⟨_, rfl⟩
    have HB72 : Hid (Below w2.heap.size w2 w7) := Lib.hid (bTrans HB6.out HB7.out)
    clear HC4 HAT HOF HK6
    go_wp2
    go_loopw [75] (fun iv wr => ∃ i : Nat, i ≤ Z.length ∧ iv = .int .i64 i ∧ Hid (Below w7.heap.size w7 wr)) (fun iv _ => Z.length - (intOf iv).toNat)
    case atStart => exact ⟨0, Nat.zero_le _, rfl, Lib.hid (Below.refl _ _)⟩
    case round =>
      obtain ⟨i, hi, rfl, HB⟩ := hrel
      obtain ⟨wo, hwo⟩ : ∃ x : World, x = wr := ⟨_, rfl⟩
      subst hwo
      by_cases hlt : i < Z.length
      · obtain ⟨⟨xf, xt, xk, xp, xn⟩, hx⟩ : ∃ x, Z[i]? = some x := ⟨_, List.getElem?_eq_getElem hlt⟩
        obtain ⟨g, o, rfl, _, hat⟩ := HSZ.out (by intro h; simp [h] at hx)
        have C0 : wo.cell? ⟨g, o + i * 5, none⟩ = some (.int .i64 xf) := bCell HB.out (hat i _ hx 0 _ rfl)
        have C1 : wo.cell? ⟨g, o + i * 5 + 1, none⟩ = some (.int .i64 xt) := bCell HB.out (hat i _ hx 1 _ rfl)
        have C2 : wo.cell? ⟨g, o + i * 5 + 2, none⟩ = some (.int .i64 xk) := bCell HB.out (hat i _ hx 2 _ rfl)
        have C3 : wo.cell? ⟨g, o + i * 5 + 3, none⟩ = some (.int .i64 xp) := bCell HB.out (hat i _ hx 3 _ rfl)
        have C4 : wo.cell? ⟨g, o + i * 5 + 4, none⟩ = some (.int .i64 xn) := bCell HB.out (hat i _ hx 4 _ rfl)
        obtain ⟨r1, r2, r3⟩ := HRI.out.at_ hx
        simp only at r1 r2 r3
        obtain ⟨xb, hxb⟩ : ∃ z, wo.heap.size = z := ⟨_, rfl⟩
        obtain ⟨wx, hwx⟩ : ∃ z, wo.alloc (.cells #[.int .i64 xf, .int .i64 xt, .int .i64 xk, .int .i64 xp, .int .i64 xn] 89) = z := ⟨_, rfl⟩
        have hbx : Below wo.heap.size wo wx := by rw [← hwx]; exact bAlloc _ _
        have hkx : Bk xb 89 #[.int .i64 xf, .int .i64 xt, .int .i64 xk, .int .i64 xp, .int .i64 xn] wx := by rw [← hwx, ← hxb]; exact Bk.new _ _ _
        have HBX : Hid (Below w7.heap.size w7 wx) := Lib.hid (bTrans HB.out hbx)
        have X0 : wx.cell? ⟨xb, 0, none⟩ = some (.int .i64 xf) := hkx.cell 0
        have X1 : wx.cell? ⟨xb, 1, none⟩ = some (.int .i64 xt) := hkx.cell 1
        obtain ⟨_, S0, S1⟩ := HKC.out _ (bTrans HB72.out HBX.out)
        have HE := Lib.hid (And.intro hxb hwx)
        have HHX := Lib.hid hx
        have HHA := Lib.hid hat
        have hlt2 : (i : Int) < (Z.length : Int) := by omega
        have m1 : ¬ xt ≤ xf := by omega
        have m2 : ¬ xf < F := by omega
        have m3 : ¬ U < xt := by omega
        clear hx hat hxb hwx hbx hkx HB
        go_upto_region 10 with fail
        rw [HE.out.1, HE.out.2]
        clear HE C0 C1 C2 C3 C4
        by_cases hi0 : i = 0
        · subst hi0
          go_quiet (fail)
          rename_i nq
          have HBQ : Hid (Below w7.heap.size w7 (wx.drewN nq)) := Lib.hid (HBX.out.trans ((bDrewN wx nq).mono HBX.out.size))
          clear X0 X1 S0 S1
          go_wp2
          exact ⟨⟨0 + 1, by omega, by go_num, HBQ⟩, by simp [intOf]; omega⟩
        · obtain ⟨j, rfl⟩ : ∃ j, i = j + 1 := ⟨i - 1, by omega⟩
          obtain ⟨y, hy⟩ : ∃ y, Z[j]? = some y := ⟨_, List.getElem?_eq_getElem (by omega)⟩
          obtain ⟨yt, hyt⟩ : ∃ z, y.to = z := ⟨_, rfl⟩
          have Y1 : wx.cell? ⟨g, o + j * 5 + 1, none⟩ = some (.int .i64 yt) := by rw [← hyt]; exact bCell HBX.out (HHA.out j _ hy 1 _ rfl)
          have m4 : ¬ xf < yt := by
            have := riseA.prev Z HRI.out (show j < j + 1 by omega) hy HHX.out
            simp only at this
            omega
          have hj0 : (0 : Int) < ((j + 1 : Nat) : Int) := by omega
          have hjl : (j : Int) < (Z.length : Int) := by omega
          clear hi0 hy hyt
          go_quiet (fail)
          rename_i nq
          have HBQ : Hid (Below w7.heap.size w7 (wx.drewN nq)) := Lib.hid (HBX.out.trans ((bDrewN wx nq).mono HBX.out.size))
          clear X0 X1 S0 S1 Y1
          go_wp2
          exact ⟨⟨j + 1 + 1, by omega, by go_num, HBQ⟩, by simp [intOf]; omega⟩
      · have HBO : Hid (Below w2.heap.size w2 wo) := Lib.hid (bTrans HB72.out HB.out)
        have HSO : Hid (Sl encAb 5 wo wo.heap.size Az Z) := Lib.hid (sl_bel HSZ.out HB.out)
        have hge : ¬ (i : Int) < (Z.length : Int) := by omega
        clear hlt HB HSZ HB7 HB72
        go_wp2
        go_loopw [15, 121] (fun av kv wr => ∃ k : Nat, k ≤ 4 ∧ kv = .int .i64 k ∧ (∃ al : Int, av = .int .i64 al ∧ Hid (allKs Z (gMin h D) F U k = al) ∧ 0 ≤ al ∧ al ≤ 1440000000 * k) ∧ Hid (Below wo.heap.size wo wr)) (fun _ kv _ => 4 - (intOf kv).toNat)
        case atStart => exact ⟨0, by omega, rfl, ⟨0, rfl, Lib.hid rfl, by omega, by omega⟩, Lib.hid (Below.refl _ _)⟩
        case round =>
          obtain ⟨k, hk, rfl, ⟨al, rfl, HAL, hal0, hal1⟩, HB⟩ := hrel
          obtain ⟨wk, hwk⟩ : ∃ x : World, x = wr := ⟨_, rfl⟩
          subst hwk
          by_cases hlt : k < 4
          · have HLAW := Lib.hid (ki_law Z h D (F := F) (a := md) (U := U) (by omega) (by omega) (k : Int))
            have HN0 := Lib.hid (SU_bd (f := fSum Z (k : Int) (gMin h D)) (m := 1440) (fun d => ⟨(fSum_bd (fun d => (gMin_bd h D d).1) _ d).1, Int.le_trans (fSum_bd (fun d => (gMin_bd h D d).1) _ d).2 (gMin_bd h D d).2⟩) (a := F) (b := U) (by omega) (by have := HFU.out; omega))
            have HN1 := Lib.hid (SU_bd (f := fSum Z (k : Int) (gMin h D)) (m := 1440) (fun d => ⟨(fSum_bd (fun d => (gMin_bd h D d).1) _ d).1, Int.le_trans (fSum_bd (fun d => (gMin_bd h D d).1) _ d).2 (gMin_bd h D d).2⟩) (a := F) (b := md) (by omega) (by have := HFU.out; omega))
            have HN2 := Lib.hid (SU_bd (f := fSum Z (k : Int) (gMin h D)) (m := 1440) (fun d => ⟨(fSum_bd (fun d => (gMin_bd h D d).1) _ d).1, Int.le_trans (fSum_bd (fun d => (gMin_bd h D d).1) _ d).2 (gMin_bd h D d).2⟩) (a := md) (b := U) (by omega) (by have := HFU.out; omega))
            have HQ0 := Lib.hid (SU_bd (f := fSum Z (k : Int) (gDay h D)) (m := 1) (fun d => ⟨(fSum_bd (fun d => (gDay_ge h D d).2.1) _ d).1, Int.le_trans (fSum_bd (fun d => (gDay_ge h D d).2.1) _ d).2 (gDay_ge h D d).2.2⟩) (a := F) (b := U) (by omega) (by have := HFU.out; omega))
            have HQ1 := Lib.hid (SU_bd (f := fSum Z (k : Int) (gDay h D)) (m := 1) (fun d => ⟨(fSum_bd (fun d => (gDay_ge h D d).2.1) _ d).1, Int.le_trans (fSum_bd (fun d => (gDay_ge h D d).2.1) _ d).2 (gDay_ge h D d).2.2⟩) (a := F) (b := md) (by omega) (by have := HFU.out; omega))
            have HQ2 := Lib.hid (SU_bd (f := fSum Z (k : Int) (gDay h D)) (m := 1) (fun d => ⟨(fSum_bd (fun d => (gDay_ge h D d).2.1) _ d).1, Int.le_trans (fSum_bd (fun d => (gDay_ge h D d).2.1) _ d).2 (gDay_ge h D d).2.2⟩) (a := md) (b := U) (by omega) (by have := HFU.out; omega))
            have HMI : Hid (∀ W, Below wk.heap.size wk W → Calls Tryz.prog 34 #[.slice Az Z.length cz, .agg #[.int .i64 (h 0), .int .i64 (h 1), .int .i64 (h 2), .int .i64 (h 3), .int .i64 (h 4), .int .i64 (h 5), .int .i64 (h 6), .slice AD D.length cD], .agg #[.int .i64 F, .int .i64 U], .int .i64 k] W fun e w' => e = .returned (.int .i64 (SU (fSum Z k (gMin h D)) F U)) ∧ Below W.heap.size W w') := Lib.hid fun W hW => ab_Minutes Z Az cz h D AD cD F U k W (by omega) (sl_bel HSO.out (bTrans HB.out hW)) (by omega) HD.out (sl_bel HSD2.out (bTrans (bTrans HBO.out HB.out) hW)) (tabW HC2.out (bTrans (bTrans HBO.out HB.out) hW))
            have HDA : Hid (∀ W, Below wk.heap.size wk W → Calls Tryz.prog 35 #[.slice Az Z.length cz, .agg #[.int .i64 (h 0), .int .i64 (h 1), .int .i64 (h 2), .int .i64 (h 3), .int .i64 (h 4), .int .i64 (h 5), .int .i64 (h 6), .slice AD D.length cD], .agg #[.int .i64 F, .int .i64 U], .int .i64 k] W fun e w' => e = .returned (.int .i64 (SU (fSum Z k (gDay h D)) F U)) ∧ Below W.heap.size W w') := Lib.hid fun W hW => ab_Days Z Az cz h D AD cD F U k W (by omega) (sl_bel HSO.out (bTrans HB.out hW)) (by omega) HD.out (sl_bel HSD2.out (bTrans (bTrans HBO.out HB.out) hW)) (tabW HC2.out (bTrans (bTrans HBO.out HB.out) hW))
            have HM1 : Hid (∀ W, Below wk.heap.size wk W → Calls Tryz.prog 34 #[.slice Az Z.length cz, .agg #[.int .i64 (h 0), .int .i64 (h 1), .int .i64 (h 2), .int .i64 (h 3), .int .i64 (h 4), .int .i64 (h 5), .int .i64 (h 6), .slice AD D.length cD], .agg #[.int .i64 F, .int .i64 md], .int .i64 k] W fun e w' => e = .returned (.int .i64 (SU (fSum Z k (gMin h D)) F md)) ∧ Below W.heap.size W w') := Lib.hid fun W hW => ab_Minutes Z Az cz h D AD cD F md k W (by omega) (sl_bel HSO.out (bTrans HB.out hW)) (by omega) HD.out (sl_bel HSD2.out (bTrans (bTrans HBO.out HB.out) hW)) (tabW HC2.out (bTrans (bTrans HBO.out HB.out) hW))
            have HD1 : Hid (∀ W, Below wk.heap.size wk W → Calls Tryz.prog 35 #[.slice Az Z.length cz, .agg #[.int .i64 (h 0), .int .i64 (h 1), .int .i64 (h 2), .int .i64 (h 3), .int .i64 (h 4), .int .i64 (h 5), .int .i64 (h 6), .slice AD D.length cD], .agg #[.int .i64 F, .int .i64 md], .int .i64 k] W fun e w' => e = .returned (.int .i64 (SU (fSum Z k (gDay h D)) F md)) ∧ Below W.heap.size W w') := Lib.hid fun W hW => ab_Days Z Az cz h D AD cD F md k W (by omega) (sl_bel HSO.out (bTrans HB.out hW)) (by omega) HD.out (sl_bel HSD2.out (bTrans (bTrans HBO.out HB.out) hW)) (tabW HC2.out (bTrans (bTrans HBO.out HB.out) hW))
            have HM2 : Hid (∀ W, Below wk.heap.size wk W → Calls Tryz.prog 34 #[.slice Az Z.length cz, .agg #[.int .i64 (h 0), .int .i64 (h 1), .int .i64 (h 2), .int .i64 (h 3), .int .i64 (h 4), .int .i64 (h 5), .int .i64 (h 6), .slice AD D.length cD], .agg #[.int .i64 md, .int .i64 U], .int .i64 k] W fun e w' => e = .returned (.int .i64 (SU (fSum Z k (gMin h D)) md U)) ∧ Below W.heap.size W w') := Lib.hid fun W hW => ab_Minutes Z Az cz h D AD cD md U k W (by omega) (sl_bel HSO.out (bTrans HB.out hW)) (by omega) HD.out (sl_bel HSD2.out (bTrans (bTrans HBO.out HB.out) hW)) (tabW HC2.out (bTrans (bTrans HBO.out HB.out) hW))
            have HD2 : Hid (∀ W, Below wk.heap.size wk W → Calls Tryz.prog 35 #[.slice Az Z.length cz, .agg #[.int .i64 (h 0), .int .i64 (h 1), .int .i64 (h 2), .int .i64 (h 3), .int .i64 (h 4), .int .i64 (h 5), .int .i64 (h 6), .slice AD D.length cD], .agg #[.int .i64 md, .int .i64 U], .int .i64 k] W fun e w' => e = .returned (.int .i64 (SU (fSum Z k (gDay h D)) md U)) ∧ Below W.heap.size W w') := Lib.hid fun W hW => ab_Days Z Az cz h D AD cD md U k W (by omega) (sl_bel HSO.out (bTrans HB.out hW)) (by omega) HD.out (sl_bel HSD2.out (bTrans (bTrans HBO.out HB.out) hW)) (tabW HC2.out (bTrans (bTrans HBO.out HB.out) hW))
            have HALN : Hid (allKs Z (gMin h D) F U (k + 1) = al + SU (fSum Z (k : Int) (gMin h D)) F U) := Lib.hid (by rw [← HAL.out]; rfl)
            obtain ⟨l1, l2, l3, l4⟩ := HLAW.out
            obtain ⟨n, hn⟩ : ∃ n, (SU (fSum Z k (gMin h D)) F U) = n := ⟨_, rfl⟩
            obtain ⟨n1, hn1⟩ : ∃ n, (SU (fSum Z k (gMin h D)) F md) = n := ⟨_, rfl⟩
            obtain ⟨n2, hn2⟩ : ∃ n, (SU (fSum Z k (gMin h D)) md U) = n := ⟨_, rfl⟩
            obtain ⟨dd, hdd⟩ : ∃ n, (SU (fSum Z k (gDay h D)) F U) = n := ⟨_, rfl⟩
            obtain ⟨d1, hd1⟩ : ∃ n, (SU (fSum Z k (gDay h D)) F md) = n := ⟨_, rfl⟩
            obtain ⟨d2, hd2⟩ : ∃ n, (SU (fSum Z k (gDay h D)) md U) = n := ⟨_, rfl⟩
            rw [hn] at l1 l3 l4 HMI HN0 HALN
            rw [hn1] at l1 HM1 HN1
            rw [hn2] at l1 HM2 HN2
            rw [hdd] at l2 l4 HDA HQ0
            rw [hd1] at l2 HD1 HQ1
            rw [hd2] at l2 HD2 HQ2
            have HNE : Hid ((n != n1 + n2) = false ∧ (dd != d1 + d2) = false) := Lib.hid ⟨by rw [l1]; simp, by rw [l2]; simp⟩
            have bn := HN0.out
            have bn1 := HN1.out
            have bn2 := HN2.out
            have bd := HQ0.out
            have bd1 := HQ1.out
            have bd2 := HQ2.out
            have p1 : ¬ n < 0 := by omega
            have p2 : ¬ dd * 1440 < n := by omega
            have hlt2 : (k : Int) < 4 := by omega
            have HBK2 : Hid (Below w2.heap.size w2 wk) := Lib.hid (bTrans HBO.out HB.out)
            have HK5 : Hid (∀ W, Below wk.heap.size wk W → _) := Lib.hid fun W hW => HKC.out W (bTrans HBK2.out hW)
            clear hn hn1 hn2 hdd hd1 hd2 l1 l2 l3 l4 HN0 HN1 HN2 HQ0 HQ1 HQ2 HLAW HAL
            go_upto_region 17 with fail
            go_cut [17, 18] from 124 to 133 (fun nv dv wx => nv = .int .i64 n ∧ dv = .int .i64 dd ∧ Hid (Below wk.heap.size wk wx))
            case first =>
              refine wp_region_use (SPS [(11, Sp.val (.slice Az Z.length cz)), (5, Sp.val (.pointer (some ⟨pb, 0, none⟩))), (6, Sp.val (.pointer (some ⟨sb, 0, none⟩))), (16, Sp.val (.int .i64 k)), (124, Sp.val (.slice Az Z.length cz)), (125, Sp.val (.agg #[.int .i64 (h 0), .int .i64 (h 1), .int .i64 (h 2), .int .i64 (h 3), .int .i64 (h 4), .int .i64 (h 5), .int .i64 (h 6), .slice AD D.length cD])), (126, Sp.val (.agg #[.int .i64 F, .int .i64 U])), (127, Sp.val (.int .i64 k)), (128, Sp.val (.int .i64 n)), (129, Sp.val (.slice Az Z.length cz)), (130, Sp.val (.agg #[.int .i64 (h 0), .int .i64 (h 1), .int .i64 (h 2), .int .i64 (h 3), .int .i64 (h 4), .int .i64 (h 5), .int .i64 (h 6), .slice AD D.length cD])), (131, Sp.val (.agg #[.int .i64 F, .int .i64 U])), (132, Sp.val (.int .i64 k)), (133, Sp.val (.int .i64 dd)), (17, Sp.val (.int .i64 n)), (18, Sp.val (.int .i64 dd))]) [] [124, 125, 126, 127, 128, 129, 130, 131, 132, 133, 17, 18] rfl (by rfl) (by kernel_rfl) (SPS.st _) (by rfl) ?_ (opsK_all ?_) ?_
              · exact sps_start (cons_all rfl (cons_all rfl (cons_all rfl (cons_all rfl (nil_all)))))
              · refine opsK_cons (by
                 exact use_s [] (opOk_move rfl rfl (.inl rfl) (by kernel_rfl) (fun _ _ h => sps rfl (h.get rfl))) (by kernel_rfl) (by rfl)) ?_
                refine opsK_cons (by
                 exact use_s [] (opOk_load (p := ⟨pb, 0, none⟩) rfl rfl (.inl rfl) (by kernel_rfl) (fun _ _ h => h.get rfl) (fun W hW => by
                    obtain ⟨⟨k0, k1, k2, k3, k4, k5, k6, k7⟩, s0, s1⟩ := HK5.out _ hW
                    exact ⟨.agg #[.int .i64 (h 0), .int .i64 (h 1), .int .i64 (h 2), .int .i64 (h 3), .int .i64 (h 4), .int .i64 (h 5), .int .i64 (h 6), .slice AD D.length cD], by go_simp, sps rfl rfl⟩)) (by kernel_rfl) (by rfl)) ?_
                refine opsK_cons (by
                 exact use_s [] (opOk_load (p := ⟨sb, 0, none⟩) rfl rfl (.inl rfl) (by kernel_rfl) (fun _ _ h => h.get rfl) (fun W hW => by
                    obtain ⟨⟨k0, k1, k2, k3, k4, k5, k6, k7⟩, s0, s1⟩ := HK5.out _ hW
                    exact ⟨.agg #[.int .i64 F, .int .i64 U], by go_simp, sps rfl rfl⟩)) (by kernel_rfl) (by rfl)) ?_
                refine opsK_cons (by
                 exact use_s [] (opOk_move rfl rfl (.inl rfl) (by kernel_rfl) (fun _ _ h => sps rfl (h.get rfl))) (by kernel_rfl) (by rfl)) ?_
                refine opsK_cons (by
                 exact use_s [] (opOk_callg (fun a => #[a.eval (.tmp 124), a.eval (.tmp 125), a.eval (.tmp 126), a.eval (.tmp 127)]) rfl rfl (.inl rfl) (fun a => by simp only [List.map_toArray, List.map_cons, List.map_nil] <;> rfl) (fun args W => by go_simp) (fun a W hW hsp => by
                    have e124 : a.eval (.tmp 124) = .slice Az Z.length cz := (hsp 124 (by kernel_rfl)).get rfl
                    have e125 : a.eval (.tmp 125) = .agg #[.int .i64 (h 0), .int .i64 (h 1), .int .i64 (h 2), .int .i64 (h 3), .int .i64 (h 4), .int .i64 (h 5), .int .i64 (h 6), .slice AD D.length cD] := (hsp 125 (by kernel_rfl)).get rfl
                    have e126 : a.eval (.tmp 126) = .agg #[.int .i64 F, .int .i64 U] := (hsp 126 (by kernel_rfl)).get rfl
                    have e127 : a.eval (.tmp 127) = .int .i64 k := (hsp 127 (by kernel_rfl)).get rfl
                    simp only [e124, e125, e126, e127]
                    exact (HMI.out _ hW).mono fun e w' ⟨he, hb⟩ => ⟨_, he, hb, sps rfl rfl⟩)) (by kernel_rfl) (by rfl)) ?_
                refine opsK_cons (by
                 exact use_s [] (opOk_move rfl rfl (.inl rfl) (by kernel_rfl) (fun _ _ h => sps rfl (h.get rfl))) (by kernel_rfl) (by rfl)) ?_
                refine opsK_cons (by
                 exact use_s [] (opOk_load (p := ⟨pb, 0, none⟩) rfl rfl (.inl rfl) (by kernel_rfl) (fun _ _ h => h.get rfl) (fun W hW => by
                    obtain ⟨⟨k0, k1, k2, k3, k4, k5, k6, k7⟩, s0, s1⟩ := HK5.out _ hW
                    exact ⟨.agg #[.int .i64 (h 0), .int .i64 (h 1), .int .i64 (h 2), .int .i64 (h 3), .int .i64 (h 4), .int .i64 (h 5), .int .i64 (h 6), .slice AD D.length cD], by go_simp, sps rfl rfl⟩)) (by kernel_rfl) (by rfl)) ?_
                refine opsK_cons (by
                 exact use_s [] (opOk_load (p := ⟨sb, 0, none⟩) rfl rfl (.inl rfl) (by kernel_rfl) (fun _ _ h => h.get rfl) (fun W hW => by
                    obtain ⟨⟨k0, k1, k2, k3, k4, k5, k6, k7⟩, s0, s1⟩ := HK5.out _ hW
                    exact ⟨.agg #[.int .i64 F, .int .i64 U], by go_simp, sps rfl rfl⟩)) (by kernel_rfl) (by rfl)) ?_
                refine opsK_cons (by
                 exact use_s [] (opOk_move rfl rfl (.inl rfl) (by kernel_rfl) (fun _ _ h => sps rfl (h.get rfl))) (by kernel_rfl) (by rfl)) ?_
                refine opsK_cons (by
                 exact use_s [] (opOk_callg (fun a => #[a.eval (.tmp 129), a.eval (.tmp 130), a.eval (.tmp 131), a.eval (.tmp 132)]) rfl rfl (.inl rfl) (fun a => by simp only [List.map_toArray, List.map_cons, List.map_nil] <;> rfl) (fun args W => by go_simp) (fun a W hW hsp => by
                    have e129 : a.eval (.tmp 129) = .slice Az Z.length cz := (hsp 129 (by kernel_rfl)).get rfl
                    have e130 : a.eval (.tmp 130) = .agg #[.int .i64 (h 0), .int .i64 (h 1), .int .i64 (h 2), .int .i64 (h 3), .int .i64 (h 4), .int .i64 (h 5), .int .i64 (h 6), .slice AD D.length cD] := (hsp 130 (by kernel_rfl)).get rfl
                    have e131 : a.eval (.tmp 131) = .agg #[.int .i64 F, .int .i64 U] := (hsp 131 (by kernel_rfl)).get rfl
                    have e132 : a.eval (.tmp 132) = .int .i64 k := (hsp 132 (by kernel_rfl)).get rfl
                    simp only [e129, e130, e131, e132]
                    exact (HDA.out _ hW).mono fun e w' ⟨he, hb⟩ => ⟨_, he, hb, sps rfl rfl⟩)) (by kernel_rfl) (by rfl)) ?_
                refine opsK_cons (by
                 exact use_s [] (opOk_assign rfl rfl (.inl rfl) (by kernel_rfl) (fun _ _ h => sps rfl (h.get rfl))) (by kernel_rfl) (by rfl)) ?_
                refine opsK_cons (by
                 exact use_s [] (opOk_assign rfl rfl (.inl rfl) (by kernel_rfl) (fun _ _ h => sps rfl (h.get rfl))) (by kernel_rfl) (by rfl)) ?_
                exact opsK_nil
              · intro vs W3 hb hsp
                have z17 := (hsp 17 (by simp)).get rfl
                have z18 := (hsp 18 (by simp)).get rfl
                simp only [putAll]
                go_simp
                go_step
                go_meet
                exact ⟨by first | rfl | exact z17, by first | rfl | exact z18, Lib.hid hb⟩
            case rest =>
            obtain ⟨rfl, rfl, HBJ⟩ := hcut
            obtain ⟨wj, rfl⟩ : ∃ x : World, x = wc := ⟨_, rfl⟩
            have HK6a : Hid (∀ W, Below wj.heap.size wj W → _) := Lib.hid fun W hW => HK5.out W (bTrans HBJ.out hW)
            clear HMI HDA
            obtain ⟨_, S0, S1⟩ := HK6a.out _ (Below.refl _ _)
            go_upto_region 18 with fail
            go_cut [19, 20] from 134 to 141 (fun lv rv wx => ∃ b1 b2 : Nat, lv = .pointer (some ⟨b1, 0, none⟩) ∧ rv = .pointer (some ⟨b2, 0, none⟩) ∧ Hid (Bk b1 31 #[.int .i64 F, .int .i64 md] wx ∧ Bk b2 31 #[.int .i64 md, .int .i64 U] wx ∧ Below wj.heap.size wj wx))
            case first =>
              go_region_held3 (fun W => W.cell? ⟨sb, 0, none⟩ = some (.int .i64 F) ∧ W.cell? ⟨sb, 1, none⟩ = some (.int .i64 U)) (go_keep) (fail)
              all_goals
                rename_i J0 K0 hJ hK hH
                show K0 _ _
                refine hK _ _ (Met.intro (hJ _ _ ?_))
                (repeat apply Exists.intro)
                refine ⟨?_, rfl⟩
              · exact ⟨wj.heap.size, wj.heap.size + 1, rfl, rfl, Lib.hid (spn2 wj _ _ _ _)⟩
              · exact ⟨wj.heap.size + 1, wj.heap.size, rfl, rfl, Lib.hid (by have h := spn2 wj #[.int .i64 md, .int .i64 U] 31 #[.int .i64 F, .int .i64 md] 31; exact ⟨h.2.1, h.1, h.2.2⟩)⟩
            case rest =>
            obtain ⟨b1, b2, rfl, rfl, HBV⟩ := hcut
            obtain ⟨wv, rfl⟩ : ∃ x : World, x = wc := ⟨_, rfl⟩
            have HKV : Hid (Below wk.heap.size wk wv) := Lib.hid (bTrans HBJ.out HBV.out.2.2)
            have HK6 : Hid (∀ W, Below wv.heap.size wv W → (W.cell? ⟨pb, 0, none⟩ = some (.int .i64 (h 0)) ∧ W.cell? ⟨pb, 1, none⟩ = some (.int .i64 (h 1)) ∧ W.cell? ⟨pb, 2, none⟩ = some (.int .i64 (h 2)) ∧ W.cell? ⟨pb, 3, none⟩ = some (.int .i64 (h 3)) ∧ W.cell? ⟨pb, 4, none⟩ = some (.int .i64 (h 4)) ∧ W.cell? ⟨pb, 5, none⟩ = some (.int .i64 (h 5)) ∧ W.cell? ⟨pb, 6, none⟩ = some (.int .i64 (h 6)) ∧ W.cell? ⟨pb, 7, none⟩ = some (.slice AD D.length cD)) ∧ (W.cell? ⟨b1, 0, none⟩ = some (.int .i64 F) ∧ W.cell? ⟨b1, 1, none⟩ = some (.int .i64 md)) ∧ W.cell? ⟨b2, 0, none⟩ = some (.int .i64 md) ∧ W.cell? ⟨b2, 1, none⟩ = some (.int .i64 U)) := Lib.hid fun W hW =>
              ⟨(HKC.out W (bTrans (bTrans HBK2.out HKV.out) hW)).1, ⟨bCell hW (HBV.out.1.cell 0), bCell hW (HBV.out.1.cell 1)⟩, bCell hW (HBV.out.2.1.cell 0), bCell hW (HBV.out.2.1.cell 1)⟩
            have HM1 := Lib.hid (bShift HM1.out HKV.out)
            have HM2 := Lib.hid (bShift HM2.out HKV.out)
            have HD1 := Lib.hid (bShift HD1.out HKV.out)
            have HD2 := Lib.hid (bShift HD2.out HKV.out)
            clear S0 S1 HBV HBJ HK5 HK6a
            go_upto_region 19 with fail
            go_cut [179] from 142 to 179 (fun qv wx => qv = .bool false ∧ Hid (Below wv.heap.size wv wx))
            case first =>
              refine wp_region_use (SPS [(11, Sp.val (.slice Az Z.length cz)), (5, Sp.val (.pointer (some ⟨pb, 0, none⟩))), (16, Sp.val (.int .i64 k)), (17, Sp.val (.int .i64 n)), (18, Sp.val (.int .i64 dd)), (19, Sp.val (.pointer (some ⟨b1, 0, none⟩))), (20, Sp.val (.pointer (some ⟨b2, 0, none⟩))), (142, Sp.val (.int .i64 n)), (143, Sp.val (.slice Az Z.length cz)), (144, Sp.val (.agg #[.int .i64 (h 0), .int .i64 (h 1), .int .i64 (h 2), .int .i64 (h 3), .int .i64 (h 4), .int .i64 (h 5), .int .i64 (h 6), .slice AD D.length cD])), (145, Sp.val (.agg #[.int .i64 F, .int .i64 md])), (146, Sp.val (.int .i64 k)), (147, Sp.val (.int .i64 n1)), (148, Sp.val (.slice Az Z.length cz)), (149, Sp.val (.agg #[.int .i64 (h 0), .int .i64 (h 1), .int .i64 (h 2), .int .i64 (h 3), .int .i64 (h 4), .int .i64 (h 5), .int .i64 (h 6), .slice AD D.length cD])), (150, Sp.val (.agg #[.int .i64 md, .int .i64 U])), (151, Sp.val (.int .i64 k)), (152, Sp.val (.int .i64 n2)), (153, Sp.val (.int .i64 (n1 + n2))), (154, Sp.val (.bool false)), (155, Sp.val (.bool false)), (156, Sp.val (.int .i64 dd)), (157, Sp.val (.slice Az Z.length cz)), (158, Sp.val (.agg #[.int .i64 (h 0), .int .i64 (h 1), .int .i64 (h 2), .int .i64 (h 3), .int .i64 (h 4), .int .i64 (h 5), .int .i64 (h 6), .slice AD D.length cD])), (159, Sp.val (.agg #[.int .i64 F, .int .i64 md])), (160, Sp.val (.int .i64 k)), (161, Sp.val (.int .i64 d1)), (162, Sp.val (.slice Az Z.length cz)), (163, Sp.val (.agg #[.int .i64 (h 0), .int .i64 (h 1), .int .i64 (h 2), .int .i64 (h 3), .int .i64 (h 4), .int .i64 (h 5), .int .i64 (h 6), .slice AD D.length cD])), (164, Sp.val (.agg #[.int .i64 md, .int .i64 U])), (165, Sp.val (.int .i64 k)), (166, Sp.val (.int .i64 d2)), (167, Sp.val (.int .i64 (d1 + d2))), (168, Sp.val (.bool false)), (169, Sp.val (.bool false)), (170, Sp.val (.bool false)), (171, Sp.val (.int .i64 n)), (172, Sp.val (.bool false)), (173, Sp.val (.bool false)), (174, Sp.val (.bool false)), (175, Sp.val (.int .i64 n)), (176, Sp.val (.int .i64 dd)), (177, Sp.val (.int .i64 (dd * 1440))), (178, Sp.val (.bool false)), (179, Sp.val (.bool false))]) [] [142, 143, 144, 145, 146, 147, 148, 149, 150, 151, 152, 153, 154, 155, 156, 157, 158, 159, 160, 161, 162, 163, 164, 165, 166, 167, 168, 169, 170, 171, 172, 173, 174, 175, 176, 177, 178, 179] rfl (by rfl) (by kernel_rfl) (SPS.st _) (by rfl) ?_ (opsK_all ?_) ?_
              · exact sps_start (cons_all rfl (cons_all rfl (cons_all rfl (cons_all rfl (cons_all rfl (cons_all rfl (cons_all rfl (nil_all))))))))
              · refine opsK_cons (by
                 exact use_s [] (opOk_move rfl rfl (.inl rfl) (by kernel_rfl) (fun _ _ h => sps rfl (h.get rfl))) (by kernel_rfl) (by rfl)) ?_
                refine opsK_cons (by
                 exact use_s [] (opOk_move rfl rfl (.inl rfl) (by kernel_rfl) (fun _ _ h => sps rfl (h.get rfl))) (by kernel_rfl) (by rfl)) ?_
                refine opsK_cons (by
                 exact use_s [] (opOk_load (p := ⟨pb, 0, none⟩) rfl rfl (.inl rfl) (by kernel_rfl) (fun _ _ h => h.get rfl) (fun W hW => by
                    obtain ⟨⟨k0, k1, k2, k3, k4, k5, k6, k7⟩, ⟨s0, s1⟩, t0, t1⟩ := HK6.out _ hW
                    exact ⟨.agg #[.int .i64 (h 0), .int .i64 (h 1), .int .i64 (h 2), .int .i64 (h 3), .int .i64 (h 4), .int .i64 (h 5), .int .i64 (h 6), .slice AD D.length cD], by go_simp, sps rfl rfl⟩)) (by kernel_rfl) (by rfl)) ?_
                refine opsK_cons (by
                 exact use_s [] (opOk_load (p := ⟨b1, 0, none⟩) rfl rfl (.inl rfl) (by kernel_rfl) (fun _ _ h => h.get rfl) (fun W hW => by
                    obtain ⟨⟨k0, k1, k2, k3, k4, k5, k6, k7⟩, ⟨s0, s1⟩, t0, t1⟩ := HK6.out _ hW
                    exact ⟨.agg #[.int .i64 F, .int .i64 md], by go_simp, sps rfl rfl⟩)) (by kernel_rfl) (by rfl)) ?_
                refine opsK_cons (by
                 exact use_s [] (opOk_move rfl rfl (.inl rfl) (by kernel_rfl) (fun _ _ h => sps rfl (h.get rfl))) (by kernel_rfl) (by rfl)) ?_
                refine opsK_cons (by
                 exact use_s [] (opOk_callg (fun a => #[a.eval (.tmp 143), a.eval (.tmp 144), a.eval (.tmp 145), a.eval (.tmp 146)]) rfl rfl (.inl rfl) (fun a => by simp only [List.map_toArray, List.map_cons, List.map_nil] <;> rfl) (fun args W => by go_simp) (fun a W hW hsp => by
                    have e143 : a.eval (.tmp 143) = .slice Az Z.length cz := (hsp 143 (by kernel_rfl)).get rfl
                    have e144 : a.eval (.tmp 144) = .agg #[.int .i64 (h 0), .int .i64 (h 1), .int .i64 (h 2), .int .i64 (h 3), .int .i64 (h 4), .int .i64 (h 5), .int .i64 (h 6), .slice AD D.length cD] := (hsp 144 (by kernel_rfl)).get rfl
                    have e145 : a.eval (.tmp 145) = .agg #[.int .i64 F, .int .i64 md] := (hsp 145 (by kernel_rfl)).get rfl
                    have e146 : a.eval (.tmp 146) = .int .i64 k := (hsp 146 (by kernel_rfl)).get rfl
                    simp only [e143, e144, e145, e146]
                    exact (HM1.out _ hW).mono fun e w' ⟨he, hb⟩ => ⟨_, he, hb, sps rfl rfl⟩)) (by kernel_rfl) (by rfl)) ?_
                refine opsK_cons (by
                 exact use_s [] (opOk_move rfl rfl (.inl rfl) (by kernel_rfl) (fun _ _ h => sps rfl (h.get rfl))) (by kernel_rfl) (by rfl)) ?_
                refine opsK_cons (by
                 exact use_s [] (opOk_load (p := ⟨pb, 0, none⟩) rfl rfl (.inl rfl) (by kernel_rfl) (fun _ _ h => h.get rfl) (fun W hW => by
                    obtain ⟨⟨k0, k1, k2, k3, k4, k5, k6, k7⟩, ⟨s0, s1⟩, t0, t1⟩ := HK6.out _ hW
                    exact ⟨.agg #[.int .i64 (h 0), .int .i64 (h 1), .int .i64 (h 2), .int .i64 (h 3), .int .i64 (h 4), .int .i64 (h 5), .int .i64 (h 6), .slice AD D.length cD], by go_simp, sps rfl rfl⟩)) (by kernel_rfl) (by rfl)) ?_
                refine opsK_cons (by
                 exact use_s [] (opOk_load (p := ⟨b2, 0, none⟩) rfl rfl (.inl rfl) (by kernel_rfl) (fun _ _ h => h.get rfl) (fun W hW => by
                    obtain ⟨⟨k0, k1, k2, k3, k4, k5, k6, k7⟩, ⟨s0, s1⟩, t0, t1⟩ := HK6.out _ hW
                    exact ⟨.agg #[.int .i64 md, .int .i64 U], by go_simp, sps rfl rfl⟩)) (by kernel_rfl) (by rfl)) ?_
                refine opsK_cons (by
                 exact use_s [] (opOk_move rfl rfl (.inl rfl) (by kernel_rfl) (fun _ _ h => sps rfl (h.get rfl))) (by kernel_rfl) (by rfl)) ?_
                refine opsK_cons (by
                 exact use_s [] (opOk_callg (fun a => #[a.eval (.tmp 148), a.eval (.tmp 149), a.eval (.tmp 150), a.eval (.tmp 151)]) rfl rfl (.inl rfl) (fun a => by simp only [List.map_toArray, List.map_cons, List.map_nil] <;> rfl) (fun args W => by go_simp) (fun a W hW hsp => by
                    have e148 : a.eval (.tmp 148) = .slice Az Z.length cz := (hsp 148 (by kernel_rfl)).get rfl
                    have e149 : a.eval (.tmp 149) = .agg #[.int .i64 (h 0), .int .i64 (h 1), .int .i64 (h 2), .int .i64 (h 3), .int .i64 (h 4), .int .i64 (h 5), .int .i64 (h 6), .slice AD D.length cD] := (hsp 149 (by kernel_rfl)).get rfl
                    have e150 : a.eval (.tmp 150) = .agg #[.int .i64 md, .int .i64 U] := (hsp 150 (by kernel_rfl)).get rfl
                    have e151 : a.eval (.tmp 151) = .int .i64 k := (hsp 151 (by kernel_rfl)).get rfl
                    simp only [e148, e149, e150, e151]
                    exact (HM2.out _ hW).mono fun e w' ⟨he, hb⟩ => ⟨_, he, hb, sps rfl rfl⟩)) (by kernel_rfl) (by rfl)) ?_
                refine opsK_cons (by
                 exact use_s [] (opOk_run rfl (.inl rfl) (fun a W hW hsp => by
                    have e147 : a.eval (.tmp 147) = .int .i64 n1 := (hsp 147 (by kernel_rfl)).get rfl
                    have e152 : a.eval (.tmp 152) = .int .i64 n2 := (hsp 152 (by kernel_rfl)).get rfl
                    refine ⟨.int .i64 (n1 + n2), ?_, sps rfl rfl⟩
                    unfold execOp
                    simp only [e147, e152]
                    go_simp
                    exact IntWalk.i64_in _ (by omega))) (by kernel_rfl) (by rfl)) ?_
                refine opsK_cons (by
                 exact use_s [] (opOk_run rfl (.inl rfl) (fun a W hW hsp => by
                    have e142 : a.eval (.tmp 142) = .int .i64 n := (hsp 142 (by kernel_rfl)).get rfl
                    have e153 : a.eval (.tmp 153) = .int .i64 (n1 + n2) := (hsp 153 (by kernel_rfl)).get rfl
                    have hq := HNE.out.1
                    refine ⟨.bool false, ?_, sps rfl rfl⟩
                    unfold execOp
                    simp only [e142, e153]
                    go_simp)) (by kernel_rfl) (by rfl)) ?_
                refine opsK_cons (by
                 exact use_s [] (opOk_move rfl rfl (.inl rfl) (by kernel_rfl) (fun _ _ h => sps rfl (h.get rfl))) (by kernel_rfl) (by rfl)) ?_
                refine opsK_cons (by
                 exact use_s [] (opOk_move rfl rfl (.inr ⟨13, 155, false, rfl, rfl, (by kernel_rfl), fun _ _ h => h.get rfl⟩) (by kernel_rfl) (fun _ _ h => sps rfl (h.get rfl))) (by kernel_rfl) (by rfl)) ?_
                refine opsK_cons (by
                 exact use_s [] (opOk_move rfl rfl (.inr ⟨13, 155, false, rfl, rfl, (by kernel_rfl), fun _ _ h => h.get rfl⟩) (by kernel_rfl) (fun _ _ h => sps rfl (h.get rfl))) (by kernel_rfl) (by rfl)) ?_
                refine opsK_cons (by
                 exact use_s [] (opOk_load (p := ⟨pb, 0, none⟩) rfl rfl (.inr ⟨13, 155, false, rfl, rfl, (by kernel_rfl), fun _ _ h => h.get rfl⟩) (by kernel_rfl) (fun _ _ h => h.get rfl) (fun W hW => by
                    obtain ⟨⟨k0, k1, k2, k3, k4, k5, k6, k7⟩, ⟨s0, s1⟩, t0, t1⟩ := HK6.out _ hW
                    exact ⟨.agg #[.int .i64 (h 0), .int .i64 (h 1), .int .i64 (h 2), .int .i64 (h 3), .int .i64 (h 4), .int .i64 (h 5), .int .i64 (h 6), .slice AD D.length cD], by go_simp, sps rfl rfl⟩)) (by kernel_rfl) (by rfl)) ?_
                refine opsK_cons (by
                 exact use_s [] (opOk_load (p := ⟨b1, 0, none⟩) rfl rfl (.inr ⟨13, 155, false, rfl, rfl, (by kernel_rfl), fun _ _ h => h.get rfl⟩) (by kernel_rfl) (fun _ _ h => h.get rfl) (fun W hW => by
                    obtain ⟨⟨k0, k1, k2, k3, k4, k5, k6, k7⟩, ⟨s0, s1⟩, t0, t1⟩ := HK6.out _ hW
                    exact ⟨.agg #[.int .i64 F, .int .i64 md], by go_simp, sps rfl rfl⟩)) (by kernel_rfl) (by rfl)) ?_
                refine opsK_cons (by
                 exact use_s [] (opOk_move rfl rfl (.inr ⟨13, 155, false, rfl, rfl, (by kernel_rfl), fun _ _ h => h.get rfl⟩) (by kernel_rfl) (fun _ _ h => sps rfl (h.get rfl))) (by kernel_rfl) (by rfl)) ?_
                refine opsK_cons (by
                 exact use_s [] (opOk_callg (fun a => #[a.eval (.tmp 157), a.eval (.tmp 158), a.eval (.tmp 159), a.eval (.tmp 160)]) rfl rfl (.inr ⟨13, 155, false, rfl, rfl, (by kernel_rfl), fun _ _ h => h.get rfl⟩) (fun a => by simp only [List.map_toArray, List.map_cons, List.map_nil] <;> rfl) (fun args W => by go_simp) (fun a W hW hsp => by
                    have e157 : a.eval (.tmp 157) = .slice Az Z.length cz := (hsp 157 (by kernel_rfl)).get rfl
                    have e158 : a.eval (.tmp 158) = .agg #[.int .i64 (h 0), .int .i64 (h 1), .int .i64 (h 2), .int .i64 (h 3), .int .i64 (h 4), .int .i64 (h 5), .int .i64 (h 6), .slice AD D.length cD] := (hsp 158 (by kernel_rfl)).get rfl
                    have e159 : a.eval (.tmp 159) = .agg #[.int .i64 F, .int .i64 md] := (hsp 159 (by kernel_rfl)).get rfl
                    have e160 : a.eval (.tmp 160) = .int .i64 k := (hsp 160 (by kernel_rfl)).get rfl
                    simp only [e157, e158, e159, e160]
                    exact (HD1.out _ hW).mono fun e w' ⟨he, hb⟩ => ⟨_, he, hb, sps rfl rfl⟩)) (by kernel_rfl) (by rfl)) ?_
                refine opsK_cons (by
                 exact use_s [] (opOk_move rfl rfl (.inr ⟨13, 155, false, rfl, rfl, (by kernel_rfl), fun _ _ h => h.get rfl⟩) (by kernel_rfl) (fun _ _ h => sps rfl (h.get rfl))) (by kernel_rfl) (by rfl)) ?_
                refine opsK_cons (by
                 exact use_s [] (opOk_load (p := ⟨pb, 0, none⟩) rfl rfl (.inr ⟨13, 155, false, rfl, rfl, (by kernel_rfl), fun _ _ h => h.get rfl⟩) (by kernel_rfl) (fun _ _ h => h.get rfl) (fun W hW => by
                    obtain ⟨⟨k0, k1, k2, k3, k4, k5, k6, k7⟩, ⟨s0, s1⟩, t0, t1⟩ := HK6.out _ hW
                    exact ⟨.agg #[.int .i64 (h 0), .int .i64 (h 1), .int .i64 (h 2), .int .i64 (h 3), .int .i64 (h 4), .int .i64 (h 5), .int .i64 (h 6), .slice AD D.length cD], by go_simp, sps rfl rfl⟩)) (by kernel_rfl) (by rfl)) ?_
                refine opsK_cons (by
                 exact use_s [] (opOk_load (p := ⟨b2, 0, none⟩) rfl rfl (.inr ⟨13, 155, false, rfl, rfl, (by kernel_rfl), fun _ _ h => h.get rfl⟩) (by kernel_rfl) (fun _ _ h => h.get rfl) (fun W hW => by
                    obtain ⟨⟨k0, k1, k2, k3, k4, k5, k6, k7⟩, ⟨s0, s1⟩, t0, t1⟩ := HK6.out _ hW
                    exact ⟨.agg #[.int .i64 md, .int .i64 U], by go_simp, sps rfl rfl⟩)) (by kernel_rfl) (by rfl)) ?_
                refine opsK_cons (by
                 exact use_s [] (opOk_move rfl rfl (.inr ⟨13, 155, false, rfl, rfl, (by kernel_rfl), fun _ _ h => h.get rfl⟩) (by kernel_rfl) (fun _ _ h => sps rfl (h.get rfl))) (by kernel_rfl) (by rfl)) ?_
                refine opsK_cons (by
                 exact use_s [] (opOk_callg (fun a => #[a.eval (.tmp 162), a.eval (.tmp 163), a.eval (.tmp 164), a.eval (.tmp 165)]) rfl rfl (.inr ⟨13, 155, false, rfl, rfl, (by kernel_rfl), fun _ _ h => h.get rfl⟩) (fun a => by simp only [List.map_toArray, List.map_cons, List.map_nil] <;> rfl) (fun args W => by go_simp) (fun a W hW hsp => by
                    have e162 : a.eval (.tmp 162) = .slice Az Z.length cz := (hsp 162 (by kernel_rfl)).get rfl
                    have e163 : a.eval (.tmp 163) = .agg #[.int .i64 (h 0), .int .i64 (h 1), .int .i64 (h 2), .int .i64 (h 3), .int .i64 (h 4), .int .i64 (h 5), .int .i64 (h 6), .slice AD D.length cD] := (hsp 163 (by kernel_rfl)).get rfl
                    have e164 : a.eval (.tmp 164) = .agg #[.int .i64 md, .int .i64 U] := (hsp 164 (by kernel_rfl)).get rfl
                    have e165 : a.eval (.tmp 165) = .int .i64 k := (hsp 165 (by kernel_rfl)).get rfl
                    simp only [e162, e163, e164, e165]
                    exact (HD2.out _ hW).mono fun e w' ⟨he, hb⟩ => ⟨_, he, hb, sps rfl rfl⟩)) (by kernel_rfl) (by rfl)) ?_
                refine opsK_cons (by
                 exact use_s [] (opOk_run rfl (.inr ⟨13, 155, false, rfl, rfl, (by kernel_rfl), fun _ _ h => h.get rfl⟩) (fun a W hW hsp => by
                    have e161 : a.eval (.tmp 161) = .int .i64 d1 := (hsp 161 (by kernel_rfl)).get rfl
                    have e166 : a.eval (.tmp 166) = .int .i64 d2 := (hsp 166 (by kernel_rfl)).get rfl
                    refine ⟨.int .i64 (d1 + d2), ?_, sps rfl rfl⟩
                    unfold execOp
                    simp only [e161, e166]
                    go_simp
                    exact IntWalk.i64_in _ (by omega))) (by kernel_rfl) (by rfl)) ?_
                refine opsK_cons (by
                 exact use_s [] (opOk_run rfl (.inr ⟨13, 155, false, rfl, rfl, (by kernel_rfl), fun _ _ h => h.get rfl⟩) (fun a W hW hsp => by
                    have e156 : a.eval (.tmp 156) = .int .i64 dd := (hsp 156 (by kernel_rfl)).get rfl
                    have e167 : a.eval (.tmp 167) = .int .i64 (d1 + d2) := (hsp 167 (by kernel_rfl)).get rfl
                    have hq := HNE.out.2
                    refine ⟨.bool false, ?_, sps rfl rfl⟩
                    unfold execOp
                    simp only [e156, e167]
                    go_simp)) (by kernel_rfl) (by rfl)) ?_
                refine opsK_cons (by
                 exact use_s [] (opOk_run rfl (.inl rfl) (fun a W hW hsp => by
                    have e155 : a.eval (.tmp 155) = .bool false := (hsp 155 (by kernel_rfl)).get rfl
                    have e168 : a.eval (.tmp 168) = .bool false := (hsp 168 (by kernel_rfl)).get rfl
                    refine ⟨.bool false, ?_, sps rfl rfl⟩
                    unfold execOp
                    simp only [e155, e168]
                    go_simp)) (by kernel_rfl) (by rfl)) ?_
                refine opsK_cons (by
                 exact use_s [] (opOk_move rfl rfl (.inl rfl) (by kernel_rfl) (fun _ _ h => sps rfl (h.get rfl))) (by kernel_rfl) (by rfl)) ?_
                refine opsK_cons (by
                 exact use_s [] (opOk_move rfl rfl (.inr ⟨28, 170, false, rfl, rfl, (by kernel_rfl), fun _ _ h => h.get rfl⟩) (by kernel_rfl) (fun _ _ h => sps rfl (h.get rfl))) (by kernel_rfl) (by rfl)) ?_
                refine opsK_cons (by
                 exact use_s [] (opOk_run rfl (.inr ⟨28, 170, false, rfl, rfl, (by kernel_rfl), fun _ _ h => h.get rfl⟩) (fun a W hW hsp => by
                    have e171 : a.eval (.tmp 171) = .int .i64 n := (hsp 171 (by kernel_rfl)).get rfl
                    refine ⟨.bool false, ?_, sps rfl rfl⟩
                    unfold execOp
                    simp only [e171]
                    go_simp)) (by kernel_rfl) (by rfl)) ?_
                refine opsK_cons (by
                 exact use_s [] (opOk_run rfl (.inl rfl) (fun a W hW hsp => by
                    have e170 : a.eval (.tmp 170) = .bool false := (hsp 170 (by kernel_rfl)).get rfl
                    have e172 : a.eval (.tmp 172) = .bool false := (hsp 172 (by kernel_rfl)).get rfl
                    refine ⟨.bool false, ?_, sps rfl rfl⟩
                    unfold execOp
                    simp only [e170, e172]
                    go_simp)) (by kernel_rfl) (by rfl)) ?_
                refine opsK_cons (by
                 exact use_s [] (opOk_move rfl rfl (.inl rfl) (by kernel_rfl) (fun _ _ h => sps rfl (h.get rfl))) (by kernel_rfl) (by rfl)) ?_
                refine opsK_cons (by
                 exact use_s [] (opOk_move rfl rfl (.inr ⟨32, 174, false, rfl, rfl, (by kernel_rfl), fun _ _ h => h.get rfl⟩) (by kernel_rfl) (fun _ _ h => sps rfl (h.get rfl))) (by kernel_rfl) (by rfl)) ?_
                refine opsK_cons (by
                 exact use_s [] (opOk_move rfl rfl (.inr ⟨32, 174, false, rfl, rfl, (by kernel_rfl), fun _ _ h => h.get rfl⟩) (by kernel_rfl) (fun _ _ h => sps rfl (h.get rfl))) (by kernel_rfl) (by rfl)) ?_
                refine opsK_cons (by
                 exact use_s [] (opOk_run rfl (.inr ⟨32, 174, false, rfl, rfl, (by kernel_rfl), fun _ _ h => h.get rfl⟩) (fun a W hW hsp => by
                    have e176 : a.eval (.tmp 176) = .int .i64 dd := (hsp 176 (by kernel_rfl)).get rfl
                    refine ⟨.int .i64 (dd * 1440), ?_, sps rfl rfl⟩
                    unfold execOp
                    simp only [e176]
                    go_simp
                    exact IntWalk.i64_in _ (by omega))) (by kernel_rfl) (by rfl)) ?_
                refine opsK_cons (by
                 exact use_s [] (opOk_run rfl (.inr ⟨32, 174, false, rfl, rfl, (by kernel_rfl), fun _ _ h => h.get rfl⟩) (fun a W hW hsp => by
                    have e175 : a.eval (.tmp 175) = .int .i64 n := (hsp 175 (by kernel_rfl)).get rfl
                    have e177 : a.eval (.tmp 177) = .int .i64 (dd * 1440) := (hsp 177 (by kernel_rfl)).get rfl
                    refine ⟨.bool false, ?_, sps rfl rfl⟩
                    unfold execOp
                    simp only [e175, e177]
                    go_simp)) (by kernel_rfl) (by rfl)) ?_
                refine opsK_cons (by
                 exact use_s [] (opOk_run rfl (.inl rfl) (fun a W hW hsp => by
                    have e174 : a.eval (.tmp 174) = .bool false := (hsp 174 (by kernel_rfl)).get rfl
                    have e178 : a.eval (.tmp 178) = .bool false := (hsp 178 (by kernel_rfl)).get rfl
                    refine ⟨.bool false, ?_, sps rfl rfl⟩
                    unfold execOp
                    simp only [e174, e178]
                    go_simp)) (by kernel_rfl) (by rfl)) ?_
                exact opsK_nil
              · intro vs W3 hb hsp
                have z179 := (hsp 179 (by simp)).get rfl
                simp only [putAll]
                go_simp
                go_step
                go_meet
                exact ⟨by first | rfl | exact z179, Lib.hid hb⟩
            case rest =>
            obtain ⟨rfl, HBY⟩ := hcut
            obtain ⟨wy, rfl⟩ : ∃ x : World, x = wc := ⟨_, rfl⟩
            have HBZ : Hid (Below wo.heap.size wo wy) := Lib.hid (bTrans HB.out (bTrans HKV.out HBY.out))
            clear HM1 HM2 HD1 HD2 HK6 HNE HBY HKV HB HBK2
            go_wp2
            exact ⟨⟨k + 1, by omega, by go_num, ⟨al + n, by go_num, HALN, by omega, by omega⟩, HBZ⟩, by simp [intOf]; omega⟩
          · have hk4 : k = 4 := by omega
            subst hk4
            have hge4 : ¬ ((4 : Nat) : Int) < 4 := by omega
            have HBW : Hid (Below w2.heap.size w2 wk) := Lib.hid (bTrans HBO.out HB.out)
            have HCA := Lib.hid (cuts_all HRI.out (g := gMin h D) (fun d => (gMin_bd h D d).1) F U)
            rw [HAL.out, ← wkM_SU h D (show F ≤ U by omega)] at HCA
            have HWM : Hid (∀ W, Below w2.heap.size w2 W → Calls Tryz.prog 46 #[.agg #[.int .i64 (h 0), .int .i64 (h 1), .int .i64 (h 2), .int .i64 (h 3), .int .i64 (h 4), .int .i64 (h 5), .int .i64 (h 6), .slice AD D.length cD], .agg #[.int .i64 F, .int .i64 U]] W fun e w' => e = .returned (.int .i64 (wkM h D F U)) ∧ Below W.heap.size W w') := Lib.hid fun W hW => wk_Minutes h D AD cD F U W (by omega) HD.out (sl_bel HSD2.out hW) (tabW HC2.out hW)
            obtain ⟨mz, hmz⟩ : ∃ z, wkM h D F U = z := ⟨_, rfl⟩
            rw [hmz] at HCA HWM
            have hca : al ≤ mz := HCA.out
            clear hmz hlt HB HBO HCA HAL
            go_wp2_with fail
            refine (HAW.out _ (bTrans HB2.out HBW.out)).mono ?_
            rintro e wa ⟨rfl, hba⟩
            have HBA : Hid (Below w2.heap.size w2 wa) := Lib.hid (bTrans HBW.out hba)
            clear hba
            obtain ⟨⟨K0, K1, K2, K3, K4, K5, K6, K7⟩, S0, S1⟩ := HKC.out _ HBA.out
            go_wp2_with fail
            refine (HWM.out _ HBA.out).mono ?_
            rintro e we ⟨rfl, hbe⟩
            have HF := Lib.hid (bTrans HB2.out (bTrans HBA.out hbe))
            clear hbe
            go_wp2
            go_ret
            exact ⟨rfl, HF.out⟩
end Go.Proofs.YtlgoaohklggcdaaGreatDoor
