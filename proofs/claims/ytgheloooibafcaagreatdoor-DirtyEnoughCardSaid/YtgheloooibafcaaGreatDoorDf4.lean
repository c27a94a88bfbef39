import Derived.Test.YtgheloooibafcaaGreatDoorDf3
import Derived.Test.YtgheloooibafcaaGreatDoorDf1
/- The walk of DirtySame. -/
namespace Go.Proofs.YtgheloooibafcaaGreatDoor
open Go.RowKit Go.Sort

theorem since_one (p n : Int) (f : Fa) : sinceL p [(n, f)] = (if payB p f = true then firstF f else 0, payB p f) := by
  unfold sinceL eachL
  by_cases h : payB p f = true
  · rw [if_pos h, h]; simp [h]; rfl
  · rw [if_neg h]; simp [h]; rfl
theorem persV {w0 : World} {A B : Option Addr} {ca cb : Nat} {X Y : List Fa} (hX : Vw w0 A ca X) (hY : Vw w0 B cb Y) (W : World) (hW : Below w0.heap.size w0 W) :
    Calls Tryz.prog 24 #[.agg #[.slice A X.length X.length], .agg #[.slice B Y.length Y.length]] W fun e w' => (∃ v, e = .returned v ∧ OwnU W.heap.size v (dpL X Y) w') ∧ Below W.heap.size W w' :=
  dy_Persons X Y A B X.length Y.length W (by have := hX.len; omega) (by have := hY.len; omega) (hX.sl.below hW) (hY.sl.below hW) hX.fit hY.fit
set_option maxHeartbeats 8000000 in
set_option maxRecDepth 100000 in
theorem lw_DSame (l : List Fa) (f : Fa) (A : Option Addr) (ca : Nat) (p : Int) (w : World) (hl : l.length ≤ 9223372036854775807) (fl : ∀ f ∈ l, FitW f) (ff : FitW f) (hL : SlF w A l) (hT : Tb w) (hC : Tab w) :
    Calls Tryz.prog 4 #[.slice A l.length ca, .agg (FA f), .int .u32 p] w fun e w' => e = .returned (.bool true) ∧ Below w.heap.size w w' := by
  obtain ⟨fb, hfb⟩ : ∃ x, w.heap.size = x := ⟨_, rfl⟩
  obtain ⟨w2, hw2⟩ : ∃ x, w.alloc (.cells (FA f) 39) = x := ⟨_, rfl⟩
  have hk2 : Bk fb 39 (FA f) w2 := by rw [← hw2, ← hfb]; exact Bk.new _ _ _
  have hb2 : Below w.heap.size w w2 := by rw [← hw2]; exact bAlloc _ _
  have HAW := Lib.hid (la_awake32 w2 (hT.below hb2) (hC.below hb2))
  have HW : Hid (∀ W, Below w2.heap.size w2 W → Tb W ∧ SlF W A l ∧ Bk fb 39 (FA f) W ∧ Below w.heap.size w W) := Lib.hid fun W hW => ⟨hT.below (bTrans hb2 hW), hL.below (bTrans hb2 hW), (hW.block fb hk2.lt).trans hk2, bTrans hb2 hW⟩
  have HFL := Lib.hid fl
  have HFF := Lib.hid ff
  have HBl := Lib.hid hl
  have HE2 := Lib.hid (And.intro hfb hw2)
  unfold FA at HE2
  clear hL hT hC fl ff hl hk2 hb2 hfb hw2
  unfold FA
  go_enter Tryz.func4, Tryz.ntmps4
  go_upto_region 1 with fail
  rw [HE2.out.1, HE2.out.2]
  clear HE2
  go_wp2_with fail
  refine HAW.out.mono ?_
  rintro e w3 ⟨rfl, hb3⟩
  have HB3 := Lib.hid hb3
  clear hb3 HAW
  go_wp2_with fail
  refine (la_small l A ca w3 HBl.out (HW.out _ HB3.out).2.1).mono ?_
  rintro e w4 ⟨rfl, hb4⟩
  have HB4 := Lib.hid (bTrans HB3.out hb4)
  obtain ⟨s1, hs1⟩ : ∃ z, smallB l = z := ⟨_, rfl⟩
  rw [hs1]
  have HS1 := Lib.hid hs1
  obtain ⟨F0, F1, F2, F3, F4, F5, F6, F7⟩ := two_box (HW.out _ HB4.out).2.2.1
  clear hb4 hs1
  cases s1 with
  | false =>
    go_wp2
    go_ret
    exact ⟨rfl, (HW.out _ HB4.out).2.2.2⟩
  | true =>
  by_cases h2 : (300 : Int) < (f.co.size : Int)
  · have d2 : decide ((300 : Int) < (f.co.size : Int)) = true := decide_eq_true h2
    go_wp2
    go_ret
    exact ⟨rfl, (HW.out _ HB4.out).2.2.2⟩
  have d2 : decide ((300 : Int) < (f.co.size : Int)) = false := decide_eq_false h2
  by_cases h3 : (300 : Int) < (f.tx.size : Int)
  · have d3 : decide ((300 : Int) < (f.tx.size : Int)) = true := decide_eq_true h3
    go_wp2
    go_ret
    exact ⟨rfl, (HW.out _ HB4.out).2.2.2⟩
  have d3 : decide ((300 : Int) < (f.tx.size : Int)) = false := decide_eq_false h3
  have HFT : Hid (Fit f) := Lib.hid ⟨HFF.out.id, HFF.out.pe, HFF.out.ki, HFF.out.fr, HFF.out.tO, HFF.out.nu, by omega, by omega⟩
  go_wp2_with fail
  refine (la_toldV l A ca w4 HS1.out HFL.out (HW.out _ HB4.out).2.1 (HW.out _ HB4.out).1).mono ?_
  rintro e w7 ⟨⟨A1, c1, rfl, hv7, hl40⟩, hb7⟩
  have HB7 := Lib.hid (bTrans HB4.out hb7)
  obtain ⟨L1, hL1⟩ : ∃ z, tellL [] l = z := ⟨_, rfl⟩
  rw [hL1] at hv7 hl40
  rw [hL1]
  clear hb7 hL1 HS1 HFL HBl h2 h3 d2 d3 F0 F1 F2 F3 F4 F5 F6 F7
  obtain ⟨sb, hsb⟩ : ∃ x, w7.heap.size = x := ⟨_, rfl⟩
  obtain ⟨wa, hwa⟩ : ∃ x, w7.alloc (.cells #[.slice A1 L1.length c1] 27) = x := ⟨_, rfl⟩
  have k1 : Bk sb 27 #[.slice A1 L1.length c1] wa := by rw [← hwa, ← hsb]; exact Bk.new _ _ _
  have k4 : Below w7.heap.size w7 wa := by rw [← hwa]; exact bAlloc _ _
  have HLD : Hid (∀ W, Below wa.heap.size wa W → W.cell? ⟨sb, 0, none⟩ = some (.slice A1 L1.length c1)) := Lib.hid fun W hW => bCell hW (k1.cell 0)
  have HBa := Lib.hid (bTrans HB7.out k4)
  have U1 := Lib.hid (hv7.below k4)
  have HEa := Lib.hid (And.intro hsb hwa)
  have N1 : Hid (∀ W, Calls Tryz.prog 19 #[.agg #[.slice A1 L1.length c1]] W fun e w' => e = .returned (.int .i64 L1.length) ∧ Below W.heap.size W w') := Lib.hid fun W => st_Len A1 L1.length c1 W
  have T1 := Lib.hid (fun W => at_all U1.out W)
  clear k1 k4 hsb hwa hv7
  go_upto_region 6 with fail
  rw [HEa.out.1, HEa.out.2]
  clear HEa
  go_cut [8] from 38 to 41 (fun av wx => ∃ ab : Nat, av = .pointer (some ⟨ab, 0, none⟩) ∧ Hid (Bk ab 29 #[.slice A1 L1.length L1.length] wx ∧ Below wa.heap.size wa wx))
  case first =>
    refine wp_region_mk (SPS [(7, Sp.val (.pointer (some ⟨sb, 0, none⟩))), (38, Sp.val (.agg #[.slice A1 L1.length c1])), (39, Sp.val (.agg #[.slice A1 L1.length c1])), (40, Sp.val (.int .i64 L1.length)), (41, Sp.val (.agg #[.slice A1 L1.length L1.length]))]) [⟨4, 5, 8, 41, 29⟩] [38, 39, 40, 41, 8] rfl (by rfl) (by kernel_rfl) (SPS.st _) ?_ ?_ ?_ (by decide) (by rfl) ?_ (opsK_all ?_) ?_
    · exact fun p _ t v w b y x _ _ h => sps_pure (dead := []) (cons_all (.inr fun _ _ _ h => h) (cons_all (.inr fun _ _ _ h => h) (cons_all (.inr fun _ _ _ h => h) (cons_all (.inr fun _ _ _ h => h) (cons_all (.inr fun _ _ _ h => h) (nil_all)))))) (by simp) h
    · intro p hp v w s hs
      simp only [List.mem_cons, List.not_mem_nil, or_false] at hp
      subst hp
      all_goals cases hs
    · intro p hp
      simp only [List.mem_cons, List.not_mem_nil, or_false] at hp
      subst hp
      all_goals exact ⟨_, rfl, by kernel_rfl, by kernel_rfl⟩
    · exact sps_start (cons_all rfl (nil_all))
    · refine opsK_cons (by
       exact kind_n (opOk_load (p := ⟨sb, 0, none⟩) rfl rfl (.inl rfl) (by kernel_rfl) (fun _ _ h => h.get rfl) (fun W hW => by
          have c0 := (HLD.out W hW)
          exact ⟨.agg #[.slice A1 L1.length c1], by go_simp, sps rfl rfl⟩)) (by decide)) ?_
      refine opsK_cons (by
       exact kind_n (opOk_load (p := ⟨sb, 0, none⟩) rfl rfl (.inl rfl) (by kernel_rfl) (fun _ _ h => h.get rfl) (fun W hW => by
          have c0 := (HLD.out W hW)
          exact ⟨.agg #[.slice A1 L1.length c1], by go_simp, sps rfl rfl⟩)) (by decide)) ?_
      refine opsK_cons (by
       exact kind_n (opOk_callg (fun a => #[a.eval (.tmp 39)]) rfl rfl (.inl rfl) (fun a => by simp only [List.map_toArray, List.map_cons, List.map_nil] <;> rfl) (fun args W => by go_simp) (fun a W hW hsp => by
          have e39 : a.eval (.tmp 39) = .agg #[.slice A1 L1.length c1] := (hsp 39 (by kernel_rfl)).get rfl
          simp only [e39]
          exact (N1.out W).mono fun e w' ⟨he, hb⟩ => ⟨_, he, hb, sps rfl rfl⟩)) (by decide)) ?_
      refine opsK_cons (by
       exact kind_n (opOk_callg (fun a => #[a.eval (.tmp 38), a.eval (.tmp 40)]) rfl rfl (.inl rfl) (fun a => by simp only [List.map_toArray, List.map_cons, List.map_nil] <;> rfl) (fun args W => by go_simp) (fun a W hW hsp => by
          have e38 : a.eval (.tmp 38) = .agg #[.slice A1 L1.length c1] := (hsp 38 (by kernel_rfl)).get rfl
          have e40 : a.eval (.tmp 40) = .int .i64 L1.length := (hsp 40 (by kernel_rfl)).get rfl
          simp only [e38, e40]
          exact (T1.out W).mono fun e w' ⟨he, hb⟩ => ⟨_, he, hb, sps rfl rfl⟩)) (by decide)) ?_
      refine opsK_cons (by exact kind_alloc ⟨4, 5, 8, 41, 29⟩ (.slice none 0 0) (by simp) rfl rfl rfl (by decide) (by decide) (fun _ _ => run_newV rfl)) ?_
      refine opsK_cons (by exact kind_store ⟨4, 5, 8, 41, 29⟩ (by simp) rfl rfl rfl (by kernel_rfl) (by kernel_rfl) (by kernel_rfl) (by decide) (fun v w h => ⟨_, _, _, h.get rfl⟩) (fun _ _ _ _ _ _ _ h1 h2 h3 => run_putV rfl h1 h2 h3)) ?_
      exact opsK_nil
    · intro vs W hb hsp hmk
      obtain ⟨vb0, y0, e0, hv0, hy0, z0⟩ := hmk ⟨4, 5, 8, 41, 29⟩ (by simp)
      have q0 : y0 = .slice A1 L1.length L1.length := by have h := z0.symm.trans ((hsp 41).get rfl); simpa using h
      subst q0
      clear z0 hmk hsp
      simp only [putAll]
      go_simp
      go_step
      go_meet
      exact ⟨vb0, rfl, Lib.hid ⟨hy0, hb⟩⟩
  case rest =>
    obtain ⟨ab, rfl, HX⟩ := hcut
    obtain ⟨wv, rfl⟩ : ∃ x : World, x = wc := ⟨_, rfl⟩
    have HVW : Hid (∀ W, Below wv.heap.size wv W → W.cell? ⟨ab, 0, none⟩ = some (.slice A1 L1.length L1.length) ∧ W.cell? ⟨sb, 0, none⟩ = some (.slice A1 L1.length c1) ∧ Below wa.heap.size wa W) := Lib.hid fun W hW => ⟨bCell hW (HX.out.1.cell 0), HLD.out _ (bTrans HX.out.2 hW), bTrans HX.out.2 hW⟩
    clear N1 T1 HLD HX
    have HRV : Hid (Below wv.heap.size wv wv) := Lib.hid (Below.refl _ _)
    have S11 := Lib.hid (fun W hW => sinceV U1.out U1.out p W hW)
    have P11 := Lib.hid (fun W hW => persV U1.out U1.out W hW)
    rw [changed_self] at S11
    rw [dpL_self] at P11
    obtain ⟨q1, _, hqb⟩ := HVW.out wv HRV.out
    go_wp2_with fail
    refine (S11.out _ hqb).mono ?_
    rintro e wf ⟨rfl, hbf⟩
    rw [show sinceL p [] = (0, false) from rfl]
    have HRF := Lib.hid hbf
    clear q1 hqb hbf S11
    obtain ⟨q1, _, hqb⟩ := HVW.out wf HRF.out
    go_wp2_with fail
    refine (P11.out _ hqb).mono ?_
    rintro e wg ⟨⟨v, rfl, hov⟩, hbg⟩
    obtain ⟨A9, c9, rfl, _, _⟩ := slU_own hov
    have HRG := Lib.hid (bTrans HRF.out hbg)
    clear q1 hqb hbg hov P11
    obtain ⟨_, q2, hqb⟩ := HVW.out wg HRG.out
    have HBg := Lib.hid (bTrans HBa.out hqb)
    obtain ⟨F0, F1, F2, F3, F4, F5, F6, F7⟩ := two_box (HW.out _ HBg.out).2.2.1
    have HADD := Lib.hid (st_Add L1 A1 c1 f wg (by omega) U1.out.cap (U1.out.sl.below hqb) HFT.out (HW.out _ HBg.out).1)
    unfold addR FA at HADD
    clear hqb
    rcases addL_or L1 f with ⟨en, hen, h⟩ | ⟨h, _, _, _, _⟩
    · rw [h] at HADD
      have bn : (en != 0) = true := bne_iff_ne.2 hen
      clear h hen
      go_wp2_with fail
      refine HADD.out.mono ?_
      rintro e wh ⟨⟨A2, c2, rfl, _, _⟩, hbh⟩
      have HBh := Lib.hid (bTrans HBg.out hbh)
      clear q2 F0 F1 F2 F3 F4 F5 F6 F7 hbh HADD
      go_wp2
      go_ret
      exact ⟨rfl, (HW.out _ (bTrans HBh.out (bAlloc _ _))).2.2.2⟩
    · rw [h] at HADD
      simp only at HADD
      have HNF : Hid (∀ x ∈ L1 ++ [f], Fit x) := Lib.hid fun x hx => by
        rcases List.mem_append.1 hx with hx | hx
        · exact U1.out.fit x hx
        · rw [List.mem_singleton.1 hx]; exact HFT.out
      have HNB : Hid (Backs (L1 ++ [f])) := Lib.hid (by have := Backs.add U1.out.back f; rw [h] at this; exact this)
      have hnl : (L1 ++ [f]).length ≤ 100 := by rw [List.length_append]; simp; omega
      have HCH : Hid (f.ki ≠ 18 → sinceL p (changedL L1 (L1 ++ [f])) = (if payB p f = true then firstF f else 0, payB p f)) := Lib.hid fun hk => by
        rw [changed_told U1.out.back U1.out.fit HFT.out (by omega) hk, since_one]
      have HCM := Lib.hid (changed_comm p L1 (L1 ++ [f]))
      obtain ⟨M, hM⟩ : ∃ M, L1 ++ [f] = M := ⟨_, rfl⟩
      rw [hM] at HADD HNF HNB hnl HCH HCM
      clear h hM
      go_wp2_with fail
      refine HADD.out.mono ?_
      rintro e wh ⟨⟨A2, c2, rfl, hc2, hs2⟩, hbh⟩
      obtain ⟨tb, htb⟩ : ∃ x, wh.heap.size = x := ⟨_, rfl⟩
      obtain ⟨wi, hwi⟩ : ∃ x, wh.alloc (.cells #[.slice A2 M.length c2] 27) = x := ⟨_, rfl⟩
      have k1 : Bk tb 27 #[.slice A2 M.length c2] wi := by rw [← hwi, ← htb]; exact Bk.new _ _ _
      have k4 : Below wg.heap.size wg wi := by rw [← hwi]; exact bTrans hbh (bAlloc _ _)
      have HRI := Lib.hid (bTrans HRG.out k4)
      have U2 : Hid (Vw wi A2 c2 M) := Lib.hid ⟨by rw [← hwi]; exact hs2.below (bAlloc _ _), hnl, hc2, HNF.out, HNB.out⟩
      have HUI : Hid (Vw wi A1 c1 L1) := Lib.hid (U1.out.below (HVW.out _ HRI.out).2.2)
      have HLD2 : Hid (∀ W, Below wi.heap.size wi W → W.cell? ⟨tb, 0, none⟩ = some (.slice A2 M.length c2)) := Lib.hid fun W hW => bCell hW (k1.cell 0)
      have N2 : Hid (∀ W, Calls Tryz.prog 19 #[.agg #[.slice A2 M.length c2]] W fun e w' => e = .returned (.int .i64 M.length) ∧ Below W.heap.size W w') := Lib.hid fun W => st_Len A2 M.length c2 W
      have T2 := Lib.hid (fun W => at_all U2.out W)
      have HEi := Lib.hid (And.intro htb hwi)
      clear k1 k4 htb hwi hbh hs2 hc2 hnl HNF HNB HADD q2 F0 F1 F2 F3 F4 F5 F6 F7
      go_upto_region 13 with fail
      rw [HEi.out.1, HEi.out.2]
      clear HEi
      go_cut [13] from 65 to 68 (fun av wx => ∃ bb : Nat, av = .pointer (some ⟨bb, 0, none⟩) ∧ Hid (Bk bb 29 #[.slice A2 M.length M.length] wx ∧ Below wi.heap.size wi wx))
      case first =>
        refine wp_region_mk (SPS [(11, Sp.val (.pointer (some ⟨tb, 0, none⟩))), (65, Sp.val (.agg #[.slice A2 M.length c2])), (66, Sp.val (.agg #[.slice A2 M.length c2])), (67, Sp.val (.int .i64 M.length)), (68, Sp.val (.agg #[.slice A2 M.length M.length]))]) [⟨4, 5, 13, 68, 29⟩] [65, 66, 67, 68, 13] rfl (by rfl) (by kernel_rfl) (SPS.st _) ?_ ?_ ?_ (by decide) (by rfl) ?_ (opsK_all ?_) ?_
        · exact fun p _ t v w b y x _ _ h => sps_pure (dead := []) (cons_all (.inr fun _ _ _ h => h) (cons_all (.inr fun _ _ _ h => h) (cons_all (.inr fun _ _ _ h => h) (cons_all (.inr fun _ _ _ h => h) (cons_all (.inr fun _ _ _ h => h) (nil_all)))))) (by simp) h
        · intro p hp v w s hs
          simp only [List.mem_cons, List.not_mem_nil, or_false] at hp
          subst hp
          all_goals cases hs
        · intro p hp
          simp only [List.mem_cons, List.not_mem_nil, or_false] at hp
          subst hp
          all_goals exact ⟨_, rfl, by kernel_rfl, by kernel_rfl⟩
        · exact sps_start (cons_all rfl (nil_all))
        · refine opsK_cons (by
           exact kind_n (opOk_load (p := ⟨tb, 0, none⟩) rfl rfl (.inl rfl) (by kernel_rfl) (fun _ _ h => h.get rfl) (fun W hW => by
              have c0 := (HLD2.out W hW)
              exact ⟨.agg #[.slice A2 M.length c2], by go_simp, sps rfl rfl⟩)) (by decide)) ?_
          refine opsK_cons (by
           exact kind_n (opOk_load (p := ⟨tb, 0, none⟩) rfl rfl (.inl rfl) (by kernel_rfl) (fun _ _ h => h.get rfl) (fun W hW => by
              have c0 := (HLD2.out W hW)
              exact ⟨.agg #[.slice A2 M.length c2], by go_simp, sps rfl rfl⟩)) (by decide)) ?_
          refine opsK_cons (by
           exact kind_n (opOk_callg (fun a => #[a.eval (.tmp 66)]) rfl rfl (.inl rfl) (fun a => by simp only [List.map_toArray, List.map_cons, List.map_nil] <;> rfl) (fun args W => by go_simp) (fun a W hW hsp => by
              have e66 : a.eval (.tmp 66) = .agg #[.slice A2 M.length c2] := (hsp 66 (by kernel_rfl)).get rfl
              simp only [e66]
              exact (N2.out W).mono fun e w' ⟨he, hb⟩ => ⟨_, he, hb, sps rfl rfl⟩)) (by decide)) ?_
          refine opsK_cons (by
           exact kind_n (opOk_callg (fun a => #[a.eval (.tmp 65), a.eval (.tmp 67)]) rfl rfl (.inl rfl) (fun a => by simp only [List.map_toArray, List.map_cons, List.map_nil] <;> rfl) (fun args W => by go_simp) (fun a W hW hsp => by
              have e65 : a.eval (.tmp 65) = .agg #[.slice A2 M.length c2] := (hsp 65 (by kernel_rfl)).get rfl
              have e67 : a.eval (.tmp 67) = .int .i64 M.length := (hsp 67 (by kernel_rfl)).get rfl
              simp only [e65, e67]
              exact (T2.out W).mono fun e w' ⟨he, hb⟩ => ⟨_, he, hb, sps rfl rfl⟩)) (by decide)) ?_
          refine opsK_cons (by exact kind_alloc ⟨4, 5, 13, 68, 29⟩ (.slice none 0 0) (by simp) rfl rfl rfl (by decide) (by decide) (fun _ _ => run_newV rfl)) ?_
          refine opsK_cons (by exact kind_store ⟨4, 5, 13, 68, 29⟩ (by simp) rfl rfl rfl (by kernel_rfl) (by kernel_rfl) (by kernel_rfl) (by decide) (fun v w h => ⟨_, _, _, h.get rfl⟩) (fun _ _ _ _ _ _ _ h1 h2 h3 => run_putV rfl h1 h2 h3)) ?_
          exact opsK_nil
        · intro vs W hb hsp hmk
          obtain ⟨vb0, y0, e0, hv0, hy0, z0⟩ := hmk ⟨4, 5, 13, 68, 29⟩ (by simp)
          have q0 : y0 = .slice A2 M.length M.length := by have h := z0.symm.trans ((hsp 68).get rfl); simpa using h
          subst q0
          clear z0 hmk hsp
          simp only [putAll]
          go_simp
          go_step
          go_meet
          exact ⟨vb0, rfl, Lib.hid ⟨hy0, hb⟩⟩
      case rest =>
        obtain ⟨bb, rfl, HX⟩ := hcut
        obtain ⟨wj, rfl⟩ : ∃ x : World, x = wc := ⟨_, rfl⟩
        have HVJ : Hid (∀ W, Below wj.heap.size wj W → (W.cell? ⟨ab, 0, none⟩ = some (.slice A1 L1.length L1.length) ∧ W.cell? ⟨bb, 0, none⟩ = some (.slice A2 M.length M.length)) ∧ Below wi.heap.size wi W ∧ Below wv.heap.size wv W) := Lib.hid fun W hW => by
          have h1 := bTrans HX.out.2 hW
          have h2 := bTrans HRI.out h1
          exact ⟨⟨(HVW.out _ h2).1, bCell hW (HX.out.1.cell 0)⟩, h1, h2⟩
        clear N2 T2 HLD2 HX
        have HRJ : Hid (Below wj.heap.size wj wj) := Lib.hid (Below.refl _ _)
        obtain ⟨⟨x, ok⟩, hx⟩ : ∃ z, sinceL p (changedL L1 M) = z := ⟨_, rfl⟩
        have S12 := Lib.hid (fun W hW => sinceV HUI.out U2.out p W hW)
        have S21 := Lib.hid (fun W hW => sinceV U2.out HUI.out p W hW)
        rw [← HCM.out] at S21
        rw [hx] at S12 S21 HCH
        simp only at S12 S21
        clear hx HCM
        obtain ⟨⟨q1, q2⟩, hqb, _⟩ := HVJ.out wj HRJ.out
        go_wp2_with fail
        refine (S12.out _ hqb).mono ?_
        rintro e wk ⟨rfl, hbk⟩
        have HRK := Lib.hid hbk
        clear q1 q2 hqb hbk S12
        obtain ⟨⟨q1, q2⟩, hqb, _⟩ := HVJ.out wk HRK.out
        go_wp2_with fail
        refine (S21.out _ hqb).mono ?_
        rintro e wm ⟨rfl, hbm⟩
        have HBm := Lib.hid (bTrans HBa.out (HVW.out _ (HVJ.out _ (bTrans HRK.out hbm)).2.2).2.2)
        clear q1 q2 hqb hbm S21
        obtain ⟨F0, F1, F2, F3, F4, F5, F6, F7⟩ := two_box (HW.out _ HBm.out).2.2.1
        have nx : (x != x) = false := by simp
        have nk : (ok != ok) = false := by cases ok <;> rfl
        by_cases hk : f.ki = 18
        · have bk : (f.ki == 18) = true := beq_iff_eq.2 hk
          clear hk
          go_wp2
          go_ret
          exact ⟨rfl, (HW.out _ HBm.out).2.2.2⟩
        · have bk : (f.ki == 18) = false := beq_eq_false_iff_ne.2 hk
          have hch := HCH.out hk
          injection hch with hx1 hx2
          obtain ⟨cn, hcn⟩ : ∃ z, payB p f = z := ⟨_, rfl⟩
          have HPE := Lib.hid (payB_eq p f)
          rw [hcn] at hx1 hx2 HPE
          subst hx2
          have HX1 := Lib.hid hx1
          clear hk hcn hx1 HCH
          go_upto_region 20 with fail
          go_cut [18] from 91 to 112 (fun q wx => q = .bool ok ∧ wm = wx)
          case first =>
            obtain ⟨x1, b1⟩ : ∃ z, (f.pe == p) = z := ⟨_, rfl⟩
            obtain ⟨x2, b2⟩ : ∃ z, (f.pe == 0) = z := ⟨_, rfl⟩
            obtain ⟨x3, b3⟩ : ∃ z, (f.ki != 13) = z := ⟨_, rfl⟩
            obtain ⟨x4, b4⟩ : ∃ z, (f.ki != 17) = z := ⟨_, rfl⟩
            rw [b1, b2, b3, b4] at HPE
            cases x1 <;> cases x2 <;> cases x3 <;> cases x4
            all_goals
              go_wp2
              go_meet
              exact ⟨by rw [HPE.out]; rfl, rfl⟩
          case rest =>
            obtain ⟨rfl, rfl⟩ := hcut
            cases ok with
            | false =>
              go_wp2
              go_ret
              exact ⟨rfl, (HW.out _ HBm.out).2.2.2⟩
            | true =>
              have HFI := Lib.hid (dy_First f wm HFT.out)
              unfold FA at HFI
              have hx3 : firstF f = x := HX1.out.symm
              rw [hx3] at HFI
              have bx : (x == x) = true := beq_self_eq_true _
              clear hx3 HX1
              go_wp2_with fail
              refine HFI.out.mono ?_
              rintro e wz ⟨rfl, hbz⟩
              have HBz := Lib.hid (HW.out _ (bTrans HBm.out hbz)).2.2.2
              clear hbz F0 F1 F2 F3 F4 F5 F6 F7
              go_wp2
              go_ret
              exact ⟨rfl, HBz.out⟩
end Go.Proofs.YtgheloooibafcaaGreatDoor
