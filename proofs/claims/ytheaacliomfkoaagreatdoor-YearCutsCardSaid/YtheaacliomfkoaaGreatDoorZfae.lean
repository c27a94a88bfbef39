/- Out of: Yq1. -/
import Derived.Test.YtheaacliomfkoaaGreatDoorZfb
import Derived.Test.YtheaacliomfkoaaGreatDoorZfad
/- year's laws: the walk of YearCuts (gen/mkyq1.py). -/
namespace Go.Proofs.YtheaacliomfkoaaGreatDoor
open Go.RowKit Go.Sort Go.BigFrame Go.Maps

theorem wpList_runV {P : Program} {ops : Array Oper} {rest : List Oper} {o : Oper} {a : Act} {w : World} {Q : Exit → Act → World → Prop} (hg : o.guard = none) (v : Value) (hrun : (execOp a.eval o).run P w = .ok (.value v) w) (hK : wpList P ops Q rest (a.put o.dst v) w) : wpList P ops Q (o :: rest) a w := by
  refine wpList_plain hg fun K' hK' => ?_
  unfold Oper.wp
  rw [hrun]
  exact hK' _ _ hK
theorem resGo_cnt (S0 : Ste) : ∀ (l : List Mon) (now : Ste) (out : List Slp), (resGo S0 now out l).1.length ≤ out.length + l.length
  | [], now, out => Nat.le_refl _
  | m :: r, now, out => by
    rw [resGo_cons]
    split
    · exact Nat.zero_le _
    · have h := resGo_cnt S0 r (stepM now m).1 (out ++ [(stepM now m).2.1])
      rw [List.length_append] at h
      simp only [List.length_cons, List.length_nil] at h ⊢
      omega
set_option maxHeartbeats 4000000 in
set_option maxRecDepth 100000 in
theorem lw_YearCuts (l : List (Mon × MoA)) (A : Option Addr) (cap : Nat) (ct : Int) (w : World) (hl : l.length ≤ 140737488355328) (hlc : l.length ≤ cap) (hcm : cap ≤ 9223372036854775807) (hA0 : A = none → cap = 0) (hct : 0 ≤ ct ∧ ct ≤ 255) (hs : InMo w A l) (hT : TbP w) :
    Calls Tryz.prog 5 #[.slice A l.length cap, .int .u8 ct] w fun e w' => e = .returned (.bool true) ∧ Below w.heap.size w w' := by
  obtain ⟨G, hG⟩ : ∃ g, greatB (l.map Prod.fst) = g := ⟨_, rfl⟩
  have HGR : Hid (Calls Tryz.prog 11 #[.slice A l.length cap] w fun e w' => e = .returned (.bool G) ∧ Below w.heap.size w w') := Lib.hid (by rw [← hG]; exact la_greatI l A cap w hl hs)
  have HG := Lib.hid hG
  have HS := Lib.hid hs
  have HT := Lib.hid hT
  have HAW : Hid (∀ W, Below w.heap.size w W → Calls Tryz.prog 12 #[] W fun e w' => e = .returned (.bool true) ∧ Below W.heap.size W w') := Lib.hid (fun W hW => la_awake28 W (hT.below hW))
  obtain ⟨k, hk⟩ : ∃ k : Nat, min ct (l.length : Int) = (k : Int) := ⟨(min ct (l.length : Int)).toNat, by omega⟩
  have HKL : Hid (k ≤ l.length ∧ l.length ≤ cap ∧ cap ≤ 9223372036854775807 ∧ (A = none → cap = 0)) := Lib.hid ⟨by omega, hlc, hcm, hA0⟩
  have HMK := Lib.hid hk
  clear hG hs hT hlc hcm hA0 hk
  go_enter Tryz.func5, Tryz.ntmps5
  go_wp2_with fail
  refine HGR.out.mono ?_
  rintro e w1 ⟨rfl, hb1⟩
  have HB1 := Lib.hid hb1
  cases G with
  | true =>
    go_wp2_with fail
    refine (HAW.out _ HB1.out).mono ?_
    rintro e w2 ⟨rfl, hb2⟩
    go_wp2
    go_ret
    exact ⟨rfl, bTrans HB1.out hb2⟩
  | false =>
  obtain ⟨hsm, hl30⟩ := (HS.out.below hb1).ok HG.out
  have HSM := Lib.hid hsm
  obtain ⟨⟨slR, SR, eR⟩, hR⟩ : ∃ R, foldM (l.map Prod.fst) = R := ⟨_, rfl⟩
  obtain ⟨⟨sl1, S1, f⟩, hR1⟩ : ∃ R, foldM ((l.map Prod.fst).take k) = R := ⟨_, rfl⟩
  obtain ⟨⟨sl2, S2, g⟩, hR2⟩ : ∃ R, resM S1 ((l.map Prod.fst).drop k) = R := ⟨_, rfl⟩
  have HFO : Hid (Calls Tryz.prog 18 #[.slice A l.length cap] w1 fun e w' => ResF (slR, SR, eR) 1572864 w1 e w') := Lib.hid (by rw [← hR]; exact yr_Fold l A cap w1 (by omega) hsm (HT.out.below hb1).tb)
  have HFK : Hid (∀ W, Below w1.heap.size w1 W → Calls Tryz.prog 18 #[.slice A k cap] W fun e w' => ResF (sl1, S1, f) 1572864 W e w') := Lib.hid (fun W hW => by
    have h := yr_Fold (l.take k) A cap W (by rw [List.length_take]; omega) ((HSM.out.below hW).take k) ((HT.out.below hb1).below hW).tb
    rw [List.map_take, hR1, List.length_take, Nat.min_eq_left HKL.out.1] at h
    exact h)
  have HRB : Hid (StB 1572864 SR ∧ StB 1572864 S1 ∧ StB (1572864 + 1572864) S2) := Lib.hid (by
    have h1 := fold_StB (l.map Prod.fst)
    have h2 := fold_StB ((l.map Prod.fst).take k)
    rw [hR] at h1
    rw [hR1] at h2
    have h3 := resGo_StB2 h2 ((l.map Prod.fst).drop k) (by rw [List.length_drop, List.length_map]; omega)
    rw [hR2] at h3
    exact ⟨h1, h2, h3⟩)
  have HCL : Hid ((f ≠ 0 → eR = f) ∧ (f = 0 → g = eR ∧ (eR ≠ 0 → sl2 = [] ∧ S2 = S1) ∧ (eR = 0 → slR = sl1 ++ sl2 ∧ SR = S2))) := Lib.hid (by
    have h := cuts_law (l.map Prod.fst) k (by rw [List.length_map]; omega)
    rw [hR, hR1, hR2] at h
    exact h)
  have H448 : Hid (∀ x ∈ slR, x.2.2.length ≤ 448) := Lib.hid (by
    have h := resGo_len Ste.none (l.map Prod.fst) Ste.none [] (fun _ h => absurd h (by simp))
    have e : foldM (l.map Prod.fst) = resGo Ste.none Ste.none [] (l.map Prod.fst) := by unfold foldM resM; rw [if_neg (by rw [List.length_map]; omega)]
    rw [← e, hR] at h
    exact h)
  have HL30 := Lib.hid hl30
  have HCN : Hid (slR.length ≤ 30) := Lib.hid (by
    have h := resGo_cnt Ste.none (l.map Prod.fst) Ste.none []
    have e : foldM (l.map Prod.fst) = resGo Ste.none Ste.none [] (l.map Prod.fst) := by unfold foldM resM; rw [if_neg (by rw [List.length_map]; omega)]
    rw [← e, hR] at h
    simp only [List.length_nil, List.length_map] at h
    omega)
  have HR2 := Lib.hid hR2
  clear hb1 hsm hR hR1 hR2
  go_wp2_with fail
  refine HFO.out.mono ?_
  rintro e w2 ⟨⟨vb, vs, vo⟩, sv, rs, hee, hrs, hos, hst, hb2⟩
  obtain ⟨m1, h1⟩ := hst.be.form
  obtain ⟨m2, h2⟩ := hst.so.form
  obtain ⟨m3, h3⟩ := hst.od.form
  dsimp only at h1 h2 h3
  subst h1 h2 h3
  obtain ⟨A3, c3, rfl, _⟩ := own_Sl encSl_len hos.1
  replace hee : e = .returned (.tuple #[.slice A3 rs.length c3, .agg #[.int .i64 SR.y, .int .i64 SR.i, .int .i64 SR.o, .map m1, .map m2, .int .i64 SR.tb, .int .i64 SR.tt, .map m3], .int .i64 eR]) := hee
  subst hee
  obtain ⟨tb6, htb⟩ : ∃ x, w2.heap.size = x := ⟨_, rfl⟩
  obtain ⟨w3, hw3⟩ : ∃ x, w2.alloc (.cells #[.int .i64 SR.y, .int .i64 SR.i, .int .i64 SR.o, .map m1, .map m2, .int .i64 SR.tb, .int .i64 SR.tt, .map m3] 32) = x := ⟨_, rfl⟩
  have g3 : Below w2.heap.size w2 w3 := by rw [← hw3]; exact bAlloc _ _
  have HK6 : Hid (Bk tb6 32 #[.int .i64 SR.y, .int .i64 SR.i, .int .i64 SR.o, .map m1, .map m2, .int .i64 SR.tb, .int .i64 SR.tt, .map m3] w3) := Lib.hid (by rw [← hw3, ← htb]; exact Bk.new _ _ _)
  have HOS : Hid (rs.map Prod.fst = slR ∧ OwnSl w1.heap.size (.slice A3 rs.length c3) rs w3) := Lib.hid ⟨hrs, hos.below g3⟩
  have HSR : Hid (StOk SR ⟨.map m1, .map m2, .map m3⟩ 1572864 w3) := Lib.hid (hst.below g3)
  have HB3 : Hid (Below w.heap.size w w3 ∧ Below w1.heap.size w1 w3) := Lib.hid ⟨bTrans HB1.out (bTrans hb2 g3), bTrans hb2 g3⟩
  have HWF : Hid (w2.heap.size = tb6 ∧ w2.alloc (.cells #[.int .i64 SR.y, .int .i64 SR.i, .int .i64 SR.o, .map m1, .map m2, .int .i64 SR.tb, .int .i64 SR.tt, .map m3] 32) = w3) := Lib.hid ⟨htb, hw3⟩
  clear hrs hos hst hb2 g3 htb hw3 HFO
  go_upto_region 4 with fail
  rw [HWF.out.2, HWF.out.1]
  clear HWF
  have hmk := HMK.out
  go_upto_region 5 with fail
  clear hmk
  go_wp2_with (first
    | (refine wpList_runV rfl _ (run_cutLo rfl rfl rfl HKL.out.1 HKL.out.2.1 HKL.out.2.2.1 HKL.out.2.2.2) ?_)
    | (go_at_call 18; refine (HFK.out _ HB3.out.2).mono ?_))
  rintro e w4 ⟨⟨vb, vs, vo⟩, sv, ls1, hee, hls1, hos1, hst1, hb4⟩
  obtain ⟨q1, h1⟩ := hst1.be.form
  obtain ⟨q2, h2⟩ := hst1.so.form
  obtain ⟨q3, h3⟩ := hst1.od.form
  dsimp only at h1 h2 h3
  subst h1 h2 h3
  obtain ⟨A9, c9, rfl, _⟩ := own_Sl encSl_len hos1.1
  replace hee : e = .returned (.tuple #[.slice A9 ls1.length c9, .agg #[.int .i64 S1.y, .int .i64 S1.i, .int .i64 S1.o, .map q1, .map q2, .int .i64 S1.tb, .int .i64 S1.tt, .map q3], .int .i64 f]) := hee
  subst hee
  obtain ⟨tb10, htb⟩ : ∃ x, w4.heap.size = x := ⟨_, rfl⟩
  obtain ⟨w5, hw5⟩ : ∃ x, w4.alloc (.cells #[.int .i64 S1.y, .int .i64 S1.i, .int .i64 S1.o, .map q1, .map q2, .int .i64 S1.tb, .int .i64 S1.tt, .map q3] 32) = x := ⟨_, rfl⟩
  have g5 : Below w4.heap.size w4 w5 := by rw [← hw5]; exact bAlloc _ _
  have g35 : Below w3.heap.size w3 w5 := bTrans hb4 g5
  have HK10 : Hid (Bk tb10 32 #[.int .i64 S1.y, .int .i64 S1.i, .int .i64 S1.o, .map q1, .map q2, .int .i64 S1.tb, .int .i64 S1.tt, .map q3] w5) := Lib.hid (by rw [← hw5, ← htb]; exact Bk.new _ _ _)
  have HO1 : Hid (ls1.map Prod.fst = sl1 ∧ OwnSl w1.heap.size (.slice A9 ls1.length c9) ls1 w5) := Lib.hid ⟨hls1, (hos1.below g5).low HB3.out.2.size⟩
  have HS1 : Hid (StOk S1 ⟨.map q1, .map q2, .map q3⟩ 1572864 w5) := Lib.hid (hst1.below g5)
  replace HK6 := Lib.hid (bkBel HK6.out g35)
  replace HOS : Hid (rs.map Prod.fst = slR ∧ OwnSl w1.heap.size (.slice A3 rs.length c3) rs w5) := Lib.hid ⟨HOS.out.1, HOS.out.2.below g35⟩
  replace HSR := Lib.hid (HSR.out.below g35)
  have HB5 : Hid (Below w.heap.size w w5 ∧ Below w1.heap.size w1 w5) := Lib.hid ⟨bTrans HB3.out.1 g35, bTrans HB3.out.2 g35⟩
  have HWF : Hid (w4.heap.size = tb10 ∧ w4.alloc (.cells #[.int .i64 S1.y, .int .i64 S1.i, .int .i64 S1.o, .map q1, .map q2, .int .i64 S1.tb, .int .i64 S1.tt, .map q3] 32) = w5) := Lib.hid ⟨htb, hw5⟩
  clear hls1 hos1 hst1 hb4 g5 g35 htb hw5 HFK HB3
  go_upto_region 6 with fail
  rw [HWF.out.2, HWF.out.1]
  clear HWF
  by_cases hf : f = 0
  case neg =>
    rw [HCL.out.1 hf]
    have d1 : (f != 0) = true := by simpa using hf
    clear hf
    go_wp2_with (go_at_call 12; refine (HAW.out _ HB5.out.1).mono ?_; rintro e w6 ⟨rfl, hb6⟩)
    go_ret
    exact ⟨rfl, bTrans HB5.out.1 hb6⟩
  case pos =>
  subst hf
  obtain ⟨hg, hbad, hok⟩ := HCL.out.2 rfl
  have hg' : eR = g := hg.symm
  rw [hg'] at hbad hok ⊢
  have HBAD := Lib.hid hbad
  have HOK := Lib.hid hok
  clear hg hg' hbad hok HCL
  obtain ⟨B0, hB0⟩ : ∃ x, w5.heap.size = x := ⟨_, rfl⟩
  have HBE := Lib.hid hB0
  have HK1 : Hid (∀ W, Below w5.heap.size w5 W → W.cell? ⟨tb10, 0, none⟩ = some (.int .i64 S1.y) ∧ W.cell? ⟨tb10, 1, none⟩ = some (.int .i64 S1.i) ∧ W.cell? ⟨tb10, 2, none⟩ = some (.int .i64 S1.o) ∧ W.cell? ⟨tb10, 3, none⟩ = some (.map q1) ∧ W.cell? ⟨tb10, 4, none⟩ = some (.map q2) ∧ W.cell? ⟨tb10, 5, none⟩ = some (.int .i64 S1.tb) ∧ W.cell? ⟨tb10, 6, none⟩ = some (.int .i64 S1.tt) ∧ W.cell? ⟨tb10, 7, none⟩ = some (.map q3)) := Lib.hid (fun W hW => by
    have h := bkBel HK10.out hW
    exact ⟨h.cell 0, h.cell 1, h.cell 2, h.cell 3, h.cell 4, h.cell 5, h.cell 6, h.cell 7⟩)
  have HRE : Hid (∀ W, Below w5.heap.size w5 W → Calls Tryz.prog 19 #[.agg #[.int .i64 S1.y, .int .i64 S1.i, .int .i64 S1.o, .map q1, .map q2, .int .i64 S1.tb, .int .i64 S1.tt, .map q3], .slice (cutA A k cap) (l.length - k) (cap - k)] W fun e w' => ∃ v, e = .returned v ∧ Below W.heap.size W w' ∧ (spRes B0 (1572864 + 1572864) sl2 S2 g).p v w') := Lib.hid (fun W hW => by
    have h := yr_ResumeV (sl := sl2) (S2 := S2) (e2 := g) S1 ⟨.map q1, .map q2, .map q3⟩ (l.drop k) (cutA A k cap) (cap - k) 1572864 W (HS1.out.below hW) (by omega) (by rw [List.length_drop]; omega) ((HSM.out.below (bTrans HB5.out.2 hW)).drop k cap HKL.out.2.1) ((HT.out.below HB5.out.1).below hW).tb B0 (by rw [← HBE.out]; exact hW.size) (by rw [List.map_drop]; exact HR2.out)
    rw [List.length_drop] at h
    exact h)
  clear hB0
  have d0 : ((0 : Int) != 0) = false := rfl
  go_upto_region 8 with fail
  go_cut [12, 13, 14] from 47 to 55 (fun sv tp ev wx => ∃ tb13 p1 p2 p3 A12 c12 ls2, sv = .slice A12 (List.length ls2) c12 ∧ tp = .pointer (some ⟨tb13, 0, none⟩) ∧ ev = .int .i64 g ∧ Hid (w5.heap.size ≤ tb13 ∧ Bk tb13 32 #[.int .i64 S2.y, .int .i64 S2.i, .int .i64 S2.o, .map p1, .map p2, .int .i64 S2.tb, .int .i64 S2.tt, .map p3] wx) ∧ Hid (ls2.map Prod.fst = sl2 ∧ OwnSl B0 (.slice A12 (List.length ls2) c12) ls2 wx) ∧ Hid (StOk S2 ⟨.map p1, .map p2, .map p3⟩ (1572864 + 1572864) wx) ∧ Hid (Below w5.heap.size w5 wx))
  case first =>
    refine wp_region_mn (SPS [(10, Sp.val (.pointer (some ⟨tb10, 0, none⟩))), (0, Sp.val (.slice A l.length cap)), (8, Sp.val (.int .i64 k)), (48, Sp.val (.agg #[.int .i64 S1.y, .int .i64 S1.i, .int .i64 S1.o, .map q1, .map q2, .int .i64 S1.tb, .int .i64 S1.tt, .map q3])), (51, Sp.val (.slice (cutA A k cap) (l.length - k) (cap - k))), (52, spRes B0 (1572864 + 1572864) sl2 S2 g), (53, spSls B0 sl2), (54, spSt S2 (1572864 + 1572864)), (55, Sp.val (.int .i64 g)), (49, Sp.val (.slice A l.length cap)), (50, Sp.val (.int .i64 k)), (47, spRes B0 (1572864 + 1572864) sl2 S2 g), (12, spSls B0 sl2), (14, Sp.val (.int .i64 g))]) [⟨9, 11, 13, 54, 32, 8⟩] [48, 49, 50, 51, 52, 47, 53, 54, 55, 13, 12, 14] rfl (by rfl) (by kernel_rfl) (SPS.st _) ?_ ?_ ?_ (by decide) (by rfl) ?_ (opsK_all ?_) ?_
    · exact fun p hp t v w b y w2 _ hb hk h => sps_kst1 (y := y) (cons_all (by first | exact kst1_of (kst_val _) | exact kst1_of (kst_st _ _) | exact kst1_of (kst_sl _ _) | exact kst1_of (kst_step _ _ _ _ _) | exact kst1_sls _ _ | exact kst1_res _ _ _ _ _) (cons_all (by first | exact kst1_of (kst_val _) | exact kst1_of (kst_st _ _) | exact kst1_of (kst_sl _ _) | exact kst1_of (kst_step _ _ _ _ _) | exact kst1_sls _ _ | exact kst1_res _ _ _ _ _) (cons_all (by first | exact kst1_of (kst_val _) | exact kst1_of (kst_st _ _) | exact kst1_of (kst_sl _ _) | exact kst1_of (kst_step _ _ _ _ _) | exact kst1_sls _ _ | exact kst1_res _ _ _ _ _) (cons_all (by first | exact kst1_of (kst_val _) | exact kst1_of (kst_st _ _) | exact kst1_of (kst_sl _ _) | exact kst1_of (kst_step _ _ _ _ _) | exact kst1_sls _ _ | exact kst1_res _ _ _ _ _) (cons_all (by first | exact kst1_of (kst_val _) | exact kst1_of (kst_st _ _) | exact kst1_of (kst_sl _ _) | exact kst1_of (kst_step _ _ _ _ _) | exact kst1_sls _ _ | exact kst1_res _ _ _ _ _) (cons_all (by first | exact kst1_of (kst_val _) | exact kst1_of (kst_st _ _) | exact kst1_of (kst_sl _ _) | exact kst1_of (kst_step _ _ _ _ _) | exact kst1_sls _ _ | exact kst1_res _ _ _ _ _) (cons_all (by first | exact kst1_of (kst_val _) | exact kst1_of (kst_st _ _) | exact kst1_of (kst_sl _ _) | exact kst1_of (kst_step _ _ _ _ _) | exact kst1_sls _ _ | exact kst1_res _ _ _ _ _) (cons_all (by first | exact kst1_of (kst_val _) | exact kst1_of (kst_st _ _) | exact kst1_of (kst_sl _ _) | exact kst1_of (kst_step _ _ _ _ _) | exact kst1_sls _ _ | exact kst1_res _ _ _ _ _) (cons_all (by first | exact kst1_of (kst_val _) | exact kst1_of (kst_st _ _) | exact kst1_of (kst_sl _ _) | exact kst1_of (kst_step _ _ _ _ _) | exact kst1_sls _ _ | exact kst1_res _ _ _ _ _) (cons_all (by first | exact kst1_of (kst_val _) | exact kst1_of (kst_st _ _) | exact kst1_of (kst_sl _ _) | exact kst1_of (kst_step _ _ _ _ _) | exact kst1_sls _ _ | exact kst1_res _ _ _ _ _) (cons_all (by first | exact kst1_of (kst_val _) | exact kst1_of (kst_st _ _) | exact kst1_of (kst_sl _ _) | exact kst1_of (kst_step _ _ _ _ _) | exact kst1_sls _ _ | exact kst1_res _ _ _ _ _) (cons_all (by first | exact kst1_of (kst_val _) | exact kst1_of (kst_st _ _) | exact kst1_of (kst_sl _ _) | exact kst1_of (kst_step _ _ _ _ _) | exact kst1_sls _ _ | exact kst1_res _ _ _ _ _) (cons_all (by first | exact kst1_of (kst_val _) | exact kst1_of (kst_st _ _) | exact kst1_of (kst_sl _ _) | exact kst1_of (kst_step _ _ _ _ _) | exact kst1_sls _ _ | exact kst1_res _ _ _ _ _) (cons_all (by first | exact kst1_of (kst_val _) | exact kst1_of (kst_st _ _) | exact kst1_of (kst_sl _ _) | exact kst1_of (kst_step _ _ _ _ _) | exact kst1_sls _ _ | exact kst1_res _ _ _ _ _) (nil_all))))))))))))))) (by simp only [List.mem_cons, List.not_mem_nil, or_false] at hp; subst hp <;> exact hb.bk) hk h
    · intro p hp v w s hs
      simp only [List.mem_cons, List.not_mem_nil, or_false] at hp
      subst hp
      all_goals cases hs
    · intro p hp
      simp only [List.mem_cons, List.not_mem_nil, or_false] at hp
      subst hp
      all_goals exact ⟨_, rfl, by kernel_rfl, by kernel_rfl⟩
    · exact sps_start (cons_all rfl (cons_all rfl (cons_all rfl (nil_all))))
    · refine opsK_cons (by
       exact kindn_n (opOk_load (p := ⟨tb10, 0, none⟩) rfl rfl (.inl rfl) (by kernel_rfl) (fun _ _ h => h.get rfl) (fun W hW => by
          obtain ⟨ce0, ce1, ce2, ce3, ce4, ce5, ce6, ce7⟩ := HK1.out W hW
          exact ⟨.agg #[.int .i64 S1.y, .int .i64 S1.i, .int .i64 S1.o, .map q1, .map q2, .int .i64 S1.tb, .int .i64 S1.tt, .map q3], by go_simp, sps rfl rfl⟩)) (by decide)) ?_
      refine opsK_cons (by
       exact kindn_n (opOk_move rfl rfl (.inl rfl) (by kernel_rfl) (fun _ _ h => sps rfl (h.get rfl))) (by decide)) ?_
      refine opsK_cons (by
       exact kindn_n (opOk_move rfl rfl (.inl rfl) (by kernel_rfl) (fun _ _ h => sps rfl (h.get rfl))) (by decide)) ?_
      refine opsK_cons (by
       exact kindn_n (opOk_run rfl (.inl rfl) (fun a W hW hsp => by
          have e49 : a.eval (.tmp 49) = .slice A l.length cap := (hsp 49 (by kernel_rfl)).get rfl
          have e50 : a.eval (.tmp 50) = .int .i64 k := (hsp 50 (by kernel_rfl)).get rfl
          exact ⟨_, run_cutHi rfl e49 e50 HKL.out.1 HKL.out.2.1 HKL.out.2.2.1 HKL.out.2.2.2, sps rfl rfl⟩)) (by decide)) ?_
      refine opsK_cons (by
       exact kindn_n (opOk_callg (fun a => #[a.eval (.tmp 48), a.eval (.tmp 51)]) rfl rfl (.inl rfl) (fun a => by simp only [List.map_toArray, List.map_cons, List.map_nil] <;> rfl) (fun args W => by go_simp) (fun a W hW hsp => by
          have e48 : a.eval (.tmp 48) = .agg #[.int .i64 S1.y, .int .i64 S1.i, .int .i64 S1.o, .map q1, .map q2, .int .i64 S1.tb, .int .i64 S1.tt, .map q3] := (hsp 48 (by kernel_rfl)).get rfl
          have e51 : a.eval (.tmp 51) = .slice (cutA A k cap) (l.length - k) (cap - k) := (hsp 51 (by kernel_rfl)).get rfl
          simp only [e48, e51]
          exact (HRE.out W hW).mono fun e w' ⟨v, he, hb, hs⟩ => ⟨v, he, hb, sps rfl hs⟩)) (by decide)) ?_
      refine opsK_cons (by
       exact kindn_n (opOk_move rfl rfl (.inl rfl) (by kernel_rfl) (fun _ _ h => sps rfl (h.get rfl))) (by decide)) ?_
      refine opsK_cons (by
       exact kindn_n (opOk_run rfl (.inl rfl) (fun a W hW hsp => by
          obtain ⟨va, vb, hv, k1, k2⟩ := (hsp 47 (by kernel_rfl)).get rfl
          have e47 : a.eval (.tmp 47) = .tuple #[va, vb, .int .i64 g] := hv
          refine ⟨va, ?_, sps rfl k1⟩
          unfold execOp
          simp only [e47]
          go_simp)) (by decide)) ?_
      refine opsK_cons (by
       exact kindn_n (opOk_run rfl (.inl rfl) (fun a W hW hsp => by
          obtain ⟨va, vb, hv, k1, k2⟩ := (hsp 47 (by kernel_rfl)).get rfl
          have e47 : a.eval (.tmp 47) = .tuple #[va, vb, .int .i64 g] := hv
          refine ⟨vb, ?_, sps rfl k2⟩
          unfold execOp
          simp only [e47]
          go_simp)) (by decide)) ?_
      refine opsK_cons (by
       exact kindn_n (opOk_run rfl (.inl rfl) (fun a W hW hsp => by
          obtain ⟨va, vb, hv, k1, k2⟩ := (hsp 47 (by kernel_rfl)).get rfl
          have e47 : a.eval (.tmp 47) = .tuple #[va, vb, .int .i64 g] := hv
          refine ⟨.int .i64 g, ?_, sps rfl rfl⟩
          unfold execOp
          simp only [e47]
          go_simp)) (by decide)) ?_
      refine opsK_cons (by exact kindn_alloc ⟨9, 11, 13, 54, 32, 8⟩ #[.int .i64 0, .int .i64 0, .int .i64 0, .map none, .map none, .int .i64 0, .int .i64 0, .map none] (by simp) rfl rfl rfl rfl (by decide) (by decide) (fun _ _ => run_newSt rfl)) ?_
      refine opsK_cons (by
       exact kindn_n (opOk_assign rfl rfl (.inl rfl) (by kernel_rfl) (fun _ _ h => sps rfl (h.get rfl))) (by decide)) ?_
      refine opsK_cons (by exact kindn_store ⟨9, 11, 13, 54, 32, 8⟩ (by simp) rfl rfl rfl (by kernel_rfl) (by kernel_rfl) (by kernel_rfl) (by decide) (fun _ _ _ _ h1 h2 h3 => run_putSt rfl h1 (h2.get rfl) h3)) ?_
      refine opsK_cons (by
       exact kindn_n (opOk_assign rfl rfl (.inl rfl) (by kernel_rfl) (fun _ _ h => sps rfl (h.get rfl))) (by decide)) ?_
      exact opsK_nil
    · intro vs W hb hsp hmk
      obtain ⟨tb13, z9, e1, hl1, hk1, z1⟩ := hmk ⟨9, 11, 13, 54, 32, 8⟩ (by simp)
      obtain ⟨p1, p2, p3, q1', hst⟩ := (hsp 54).get rfl
      obtain ⟨A12, c12, ls2, z12, hls, hos⟩ := (hsp 12).get rfl
      have z14 := (hsp 14).get rfl
      rw [z1] at q1'
      injection q1' with q1'
      subst q1'
      clear z1 hmk hsp
      simp only [putAll]
      go_simp
      go_step
      go_meet
      exact ⟨tb13, p1, p2, p3, A12, c12, ls2, rfl, rfl, z14, Lib.hid ⟨hl1, hk1.bk⟩, Lib.hid ⟨hls, hos⟩, Lib.hid hst, Lib.hid hb⟩
  case rest =>
  obtain ⟨tb13, p1, p2, p3, A12, c12, ls2, rfl, rfl, rfl, HK13, HO2, HS2, HBX⟩ := hcut
  rename World => wc
  have HBC : Hid (Below w.heap.size w wc ∧ Below w1.heap.size w1 wc) := Lib.hid ⟨bTrans HB5.out.1 HBX.out, bTrans HB5.out.2 HBX.out⟩
  have HK2 : Hid (∀ W, Below wc.heap.size wc W → W.cell? ⟨tb13, 0, none⟩ = some (.int .i64 S2.y) ∧ W.cell? ⟨tb13, 1, none⟩ = some (.int .i64 S2.i) ∧ W.cell? ⟨tb13, 2, none⟩ = some (.int .i64 S2.o) ∧ W.cell? ⟨tb13, 3, none⟩ = some (.map p1) ∧ W.cell? ⟨tb13, 4, none⟩ = some (.map p2) ∧ W.cell? ⟨tb13, 5, none⟩ = some (.int .i64 S2.tb) ∧ W.cell? ⟨tb13, 6, none⟩ = some (.int .i64 S2.tt) ∧ W.cell? ⟨tb13, 7, none⟩ = some (.map p3)) := Lib.hid (fun W hW => by
    have h := bkBel HK13.out.2 hW
    exact ⟨h.cell 0, h.cell 1, h.cell 2, h.cell 3, h.cell 4, h.cell 5, h.cell 6, h.cell 7⟩)
  have HK1b : Hid (∀ W, Below wc.heap.size wc W → W.cell? ⟨tb10, 0, none⟩ = some (.int .i64 S1.y) ∧ W.cell? ⟨tb10, 1, none⟩ = some (.int .i64 S1.i) ∧ W.cell? ⟨tb10, 2, none⟩ = some (.int .i64 S1.o) ∧ W.cell? ⟨tb10, 3, none⟩ = some (.map q1) ∧ W.cell? ⟨tb10, 4, none⟩ = some (.map q2) ∧ W.cell? ⟨tb10, 5, none⟩ = some (.int .i64 S1.tb) ∧ W.cell? ⟨tb10, 6, none⟩ = some (.int .i64 S1.tt) ∧ W.cell? ⟨tb10, 7, none⟩ = some (.map q3)) := Lib.hid (fun W hW => HK1.out W (bTrans HBX.out hW))
  obtain ⟨TX, hTX⟩ : ∃ t, txM S2 = t := ⟨_, rfl⟩
  have HTX := Lib.hid hTX
  have HT2 : Hid (∀ W, Below wc.heap.size wc W → Calls Tryz.prog 16 #[.agg #[.int .i64 S2.y, .int .i64 S2.i, .int .i64 S2.o, .map p1, .map p2, .int .i64 S2.tb, .int .i64 S2.tt, .map p3]] W fun e w' => e = .returned (.string TX) ∧ Below W.heap.size W w') := Lib.hid (fun W hW => by
    rw [← hTX]
    exact yr_TextB S2 ⟨.map p1, .map p2, .map p3⟩ (1572864 + 1572864) W (HS2.out.below hW) (by omega) HRB.out.2.2 ((HT.out.below HBC.out.1).below hW))
  have HAW2 : Hid (∀ W, Below wc.heap.size wc W → Calls Tryz.prog 12 #[] W fun e w' => e = .returned (.bool true) ∧ Below W.heap.size W w') := Lib.hid (fun W hW => HAW.out W (bTrans HBC.out.1 hW))
  clear HRE HK1 hTX
  by_cases hg0 : g = 0
  case neg =>
    have HL0 : Hid (ls2.length = 0) := Lib.hid (by have h := HO2.out.1; rw [(HBAD.out hg0).1] at h; simpa using congrArg List.length h)
    have HT1 : Hid (∀ W, Below wc.heap.size wc W → Calls Tryz.prog 16 #[.agg #[.int .i64 S1.y, .int .i64 S1.i, .int .i64 S1.o, .map q1, .map q2, .int .i64 S1.tb, .int .i64 S1.tt, .map q3]] W fun e w' => e = .returned (.string TX) ∧ Below W.heap.size W w') := Lib.hid (fun W hW => by
      rw [← HTX.out, (HBAD.out hg0).2]
      exact yr_TextB S1 ⟨.map q1, .map q2, .map q3⟩ 1572864 W (HS1.out.below (bTrans HBX.out hW)) (by omega) HRB.out.2.1 ((HT.out.below HBC.out.1).below hW))
    have d1 : (g != 0) = true := by simpa using hg0
    clear hg0
    go_upto_region 12 with fail
    go_cut [4] from 61 to 73 (fun v wx => v = .bool true ∧ Hid (Below wc.heap.size wc wx))
    case first =>
      refine wp_region_mk (SPS [(13, Sp.val (.pointer (some ⟨tb13, 0, none⟩))), (10, Sp.val (.pointer (some ⟨tb10, 0, none⟩))), (61, Sp.val (.agg #[.int .i64 S2.y, .int .i64 S2.i, .int .i64 S2.o, .map p1, .map p2, .int .i64 S2.tb, .int .i64 S2.tt, .map p3])), (62, Sp.val (.string TX)), (63, Sp.val (.agg #[.int .i64 S1.y, .int .i64 S1.i, .int .i64 S1.o, .map q1, .map q2, .int .i64 S1.tb, .int .i64 S1.tt, .map q3])), (64, Sp.val (.string TX)), (65, Sp.val (.bool true)), (12, Sp.val (.slice A12 ls2.length c12)), (68, Sp.val (.int .i64 0)), (69, Sp.val (.bool true)), (72, Sp.val (.bool true)), (66, Sp.val (.bool true)), (67, Sp.val (.slice A12 ls2.length c12)), (70, Sp.val (.bool true)), (71, Sp.val (.bool true)), (73, Sp.val (.bool true)), (4, Sp.val (.bool true))]) [] [61, 62, 63, 64, 65, 66, 67, 68, 69, 70, 71, 72, 73, 4] rfl (by rfl) (by kernel_rfl) (SPS.st _) ?_ ?_ ?_ (by decide) (by rfl) ?_ (opsK_all ?_) ?_
      · exact nil_all
      · exact nil_all
      · exact nil_all
      · exact sps_start (cons_all rfl (cons_all rfl (cons_all rfl (nil_all))))
      · refine opsK_cons (by
         exact kind_n (opOk_load (p := ⟨tb13, 0, none⟩) rfl rfl (.inl rfl) (by kernel_rfl) (fun _ _ h => h.get rfl) (fun W hW => by
            obtain ⟨ce0, ce1, ce2, ce3, ce4, ce5, ce6, ce7⟩ := HK2.out W hW
            exact ⟨.agg #[.int .i64 S2.y, .int .i64 S2.i, .int .i64 S2.o, .map p1, .map p2, .int .i64 S2.tb, .int .i64 S2.tt, .map p3], by go_simp, sps rfl rfl⟩)) (by decide)) ?_
        refine opsK_cons (by
         exact kind_n (opOk_callg (fun a => #[a.eval (.tmp 61)]) rfl rfl (.inl rfl) (fun a => by simp only [List.map_toArray, List.map_cons, List.map_nil] <;> rfl) (fun args W => by go_simp) (fun a W hW hsp => by
            have e61 : a.eval (.tmp 61) = .agg #[.int .i64 S2.y, .int .i64 S2.i, .int .i64 S2.o, .map p1, .map p2, .int .i64 S2.tb, .int .i64 S2.tt, .map p3] := (hsp 61 (by kernel_rfl)).get rfl
            simp only [e61]
            exact (HT2.out W hW).mono fun e w' ⟨he, hb⟩ => ⟨_, he, hb, sps rfl rfl⟩)) (by decide)) ?_
        refine opsK_cons (by
         exact kind_n (opOk_load (p := ⟨tb10, 0, none⟩) rfl rfl (.inl rfl) (by kernel_rfl) (fun _ _ h => h.get rfl) (fun W hW => by
            obtain ⟨ce0, ce1, ce2, ce3, ce4, ce5, ce6, ce7⟩ := HK1b.out W hW
            exact ⟨.agg #[.int .i64 S1.y, .int .i64 S1.i, .int .i64 S1.o, .map q1, .map q2, .int .i64 S1.tb, .int .i64 S1.tt, .map q3], by go_simp, sps rfl rfl⟩)) (by decide)) ?_
        refine opsK_cons (by
         exact kind_n (opOk_callg (fun a => #[a.eval (.tmp 63)]) rfl rfl (.inl rfl) (fun a => by simp only [List.map_toArray, List.map_cons, List.map_nil] <;> rfl) (fun args W => by go_simp) (fun a W hW hsp => by
            have e63 : a.eval (.tmp 63) = .agg #[.int .i64 S1.y, .int .i64 S1.i, .int .i64 S1.o, .map q1, .map q2, .int .i64 S1.tb, .int .i64 S1.tt, .map q3] := (hsp 63 (by kernel_rfl)).get rfl
            simp only [e63]
            exact (HT1.out W hW).mono fun e w' ⟨he, hb⟩ => ⟨_, he, hb, sps rfl rfl⟩)) (by decide)) ?_
        refine opsK_cons (by
         exact kind_n (opOk_run rfl (.inl rfl) (fun a W hW hsp => by
            have e62 : a.eval (.tmp 62) = .string TX := (hsp 62 (by kernel_rfl)).get rfl
            have e64 : a.eval (.tmp 64) = .string TX := (hsp 64 (by kernel_rfl)).get rfl
            refine ⟨.bool true, ?_, sps rfl rfl⟩
            unfold execOp
            simp only [e62, e64]
            go_simp)) (by decide)) ?_
        refine opsK_cons (by
         exact kind_n (opOk_move rfl rfl (.inl rfl) (by kernel_rfl) (fun _ _ h => sps rfl (h.get rfl))) (by decide)) ?_
        refine opsK_cons (by
         exact kind_n (opOk_move rfl rfl (.inr ⟨5, 66, true, rfl, rfl, (by kernel_rfl), fun _ _ h => h.get rfl⟩) (by kernel_rfl) (fun _ _ h => sps rfl (h.get rfl))) (by decide)) ?_
        refine opsK_cons (by
         exact kind_n (opOk_run rfl (.inr ⟨5, 66, true, rfl, rfl, (by kernel_rfl), fun _ _ h => h.get rfl⟩) (fun a W hW hsp => by
            have e67 : a.eval (.tmp 67) = .slice A12 ls2.length c12 := (hsp 67 (by kernel_rfl)).get rfl
            have g67 : a.tmps[67]?.getD undef = .slice A12 ls2.length c12 := by (have h := e67; simp only [Act.eval, Array.getD_eq_getD_getElem?] at h; exact h)
            have hl0 := HL0.out
            refine ⟨.int .i64 0, ?_, sps rfl rfl⟩
            unfold execOp
            go_simp)) (by decide)) ?_
        refine opsK_cons (by
         exact kind_n (opOk_run rfl (.inr ⟨5, 66, true, rfl, rfl, (by kernel_rfl), fun _ _ h => h.get rfl⟩) (fun a W hW hsp => by
            have e68 : a.eval (.tmp 68) = .int .i64 0 := (hsp 68 (by kernel_rfl)).get rfl
            refine ⟨.bool true, ?_, sps rfl rfl⟩
            unfold execOp
            simp only [e68]
            go_simp)) (by decide)) ?_
        refine opsK_cons (by
         exact kind_n (opOk_run rfl (.inl rfl) (fun a W hW hsp => by
            have e66 : a.eval (.tmp 66) = .bool true := (hsp 66 (by kernel_rfl)).get rfl
            have e69 : a.eval (.tmp 69) = .bool true := (hsp 69 (by kernel_rfl)).get rfl
            refine ⟨.bool true, ?_, sps rfl rfl⟩
            unfold execOp
            simp only [e66, e69]
            go_simp)) (by decide)) ?_
        refine opsK_cons (by
         exact kind_n (opOk_move rfl rfl (.inl rfl) (by kernel_rfl) (fun _ _ h => sps rfl (h.get rfl))) (by decide)) ?_
        refine opsK_cons (by
         exact kind_n (opOk_callg (fun a => #[]) rfl rfl (.inr ⟨10, 71, true, rfl, rfl, (by kernel_rfl), fun _ _ h => h.get rfl⟩) (fun a => by simp only [List.map_toArray, List.map_nil] <;> rfl) (fun args W => by go_simp) (fun a W hW hsp => by
            
            exact (HAW2.out W hW).mono fun e w' ⟨he, hb⟩ => ⟨_, he, hb, sps rfl rfl⟩)) (by decide)) ?_
        refine opsK_cons (by
         exact kind_n (opOk_run rfl (.inl rfl) (fun a W hW hsp => by
            have e71 : a.eval (.tmp 71) = .bool true := (hsp 71 (by kernel_rfl)).get rfl
            have e72 : a.eval (.tmp 72) = .bool true := (hsp 72 (by kernel_rfl)).get rfl
            refine ⟨.bool true, ?_, sps rfl rfl⟩
            unfold execOp
            simp only [e71, e72]
            go_simp)) (by decide)) ?_
        refine opsK_cons (by
         exact kind_n (opOk_assign rfl rfl (.inl rfl) (by kernel_rfl) (fun _ _ h => sps rfl (h.get rfl))) (by decide)) ?_
        exact opsK_nil
      · intro vs W hb hsp _
        have z4 := (hsp 4).get rfl
        simp only [putAll]
        go_simp
        go_step
        go_meet
        exact ⟨z4, Lib.hid hb⟩
    case rest =>
    obtain ⟨rfl, HBY⟩ := hcut
    go_wp2
    go_ret
    exact ⟨rfl, bTrans HBC.out.1 HBY.out⟩
  case pos =>
  subst hg0
  obtain ⟨hsl, hS2⟩ := HOK.out rfl
  have HLM : Hid (rs.map Prod.fst = ls1.map Prod.fst ++ ls2.map Prod.fst) := Lib.hid (by rw [HOS.out.1, HO1.out.1, HO2.out.1]; exact hsl)
  have hlen : rs.length = ls1.length + ls2.length := by have h := congrArg List.length HLM.out; simpa using h
  have HLN := Lib.hid hlen
  have HLB : Hid (ls1.length ≤ 1000 ∧ ls2.length ≤ 1000) := Lib.hid (by
    have h1 : rs.length = slR.length := by rw [← HOS.out.1]; simp
    have h2 := HCN.out
    omega)
  have HDL : Hid (((rs.length : Int) != ((ls1.length : Int) + (ls2.length : Int))) = false) := Lib.hid (by rw [hlen]; simp)
  have HKR : Hid (∀ W, Below wc.heap.size wc W → W.cell? ⟨tb6, 0, none⟩ = some (.int .i64 SR.y) ∧ W.cell? ⟨tb6, 1, none⟩ = some (.int .i64 SR.i) ∧ W.cell? ⟨tb6, 2, none⟩ = some (.int .i64 SR.o) ∧ W.cell? ⟨tb6, 3, none⟩ = some (.map m1) ∧ W.cell? ⟨tb6, 4, none⟩ = some (.map m2) ∧ W.cell? ⟨tb6, 5, none⟩ = some (.int .i64 SR.tb) ∧ W.cell? ⟨tb6, 6, none⟩ = some (.int .i64 SR.tt) ∧ W.cell? ⟨tb6, 7, none⟩ = some (.map m3)) := Lib.hid (fun W hW => by
    have h := bkBel (bkBel HK6.out HBX.out) hW
    exact ⟨h.cell 0, h.cell 1, h.cell 2, h.cell 3, h.cell 4, h.cell 5, h.cell 6, h.cell 7⟩)
  have HTR : Hid (∀ W, Below wc.heap.size wc W → Calls Tryz.prog 16 #[.agg #[.int .i64 SR.y, .int .i64 SR.i, .int .i64 SR.o, .map m1, .map m2, .int .i64 SR.tb, .int .i64 SR.tt, .map m3]] W fun e w' => e = .returned (.string TX) ∧ Below W.heap.size W w') := Lib.hid (fun W hW => by
    rw [← HTX.out, ← hS2]
    exact yr_TextB SR ⟨.map m1, .map m2, .map m3⟩ 1572864 W ((HSR.out.below HBX.out).below hW) (by omega) HRB.out.1 ((HT.out.below HBC.out.1).below hW))
  clear hsl hS2 hlen
  go_upto_region 13 with fail
  go_cut [88] from 74 to 87 (fun v wx => v = .bool false ∧ Hid (Below wc.heap.size wc wx))
  case first =>
    refine wp_region_mk (SPS [(5, Sp.val (.slice A3 rs.length c3)), (9, Sp.val (.slice A9 ls1.length c9)), (12, Sp.val (.slice A12 ls2.length c12)), (75, Sp.val (.int .i64 rs.length)), (77, Sp.val (.int .i64 ls1.length)), (79, Sp.val (.int .i64 ls2.length)), (80, Sp.val (.int .i64 (ls1.length + ls2.length))), (81, Sp.val (.bool false)), (6, Sp.val (.pointer (some ⟨tb6, 0, none⟩))), (13, Sp.val (.pointer (some ⟨tb13, 0, none⟩))), (83, Sp.val (.agg #[.int .i64 SR.y, .int .i64 SR.i, .int .i64 SR.o, .map m1, .map m2, .int .i64 SR.tb, .int .i64 SR.tt, .map m3])), (84, Sp.val (.string TX)), (85, Sp.val (.agg #[.int .i64 S2.y, .int .i64 S2.i, .int .i64 S2.o, .map p1, .map p2, .int .i64 S2.tb, .int .i64 S2.tt, .map p3])), (86, Sp.val (.string TX)), (87, Sp.val (.bool false)), (74, Sp.val (.slice A3 rs.length c3)), (76, Sp.val (.slice A9 ls1.length c9)), (78, Sp.val (.slice A12 ls2.length c12)), (82, Sp.val (.bool false)), (88, Sp.val (.bool false))]) [] [74, 75, 76, 77, 78, 79, 80, 81, 82, 83, 84, 85, 86, 87, 88] rfl (by rfl) (by kernel_rfl) (SPS.st _) ?_ ?_ ?_ (by decide) (by rfl) ?_ (opsK_all ?_) ?_
    · exact nil_all
    · exact nil_all
    · exact nil_all
    · exact sps_start (cons_all rfl (cons_all rfl (cons_all rfl (cons_all rfl (cons_all rfl (nil_all))))))
    · refine opsK_cons (by
       exact kind_n (opOk_move rfl rfl (.inl rfl) (by kernel_rfl) (fun _ _ h => sps rfl (h.get rfl))) (by decide)) ?_
      refine opsK_cons (by
       exact kind_n (opOk_run rfl (.inl rfl) (fun a W hW hsp => by
          have e74 : a.eval (.tmp 74) = .slice A3 rs.length c3 := (hsp 74 (by kernel_rfl)).get rfl
          have g74 : a.tmps[74]?.getD undef = .slice A3 rs.length c3 := by have h := e74; simp only [Act.eval, Array.getD_eq_getD_getElem?] at h; exact h
          refine ⟨.int .i64 rs.length, ?_, sps rfl rfl⟩
          unfold execOp
          go_simp)) (by decide)) ?_
      refine opsK_cons (by
       exact kind_n (opOk_move rfl rfl (.inl rfl) (by kernel_rfl) (fun _ _ h => sps rfl (h.get rfl))) (by decide)) ?_
      refine opsK_cons (by
       exact kind_n (opOk_run rfl (.inl rfl) (fun a W hW hsp => by
          have e76 : a.eval (.tmp 76) = .slice A9 ls1.length c9 := (hsp 76 (by kernel_rfl)).get rfl
          have g76 : a.tmps[76]?.getD undef = .slice A9 ls1.length c9 := by have h := e76; simp only [Act.eval, Array.getD_eq_getD_getElem?] at h; exact h
          refine ⟨.int .i64 ls1.length, ?_, sps rfl rfl⟩
          unfold execOp
          go_simp)) (by decide)) ?_
      refine opsK_cons (by
       exact kind_n (opOk_move rfl rfl (.inl rfl) (by kernel_rfl) (fun _ _ h => sps rfl (h.get rfl))) (by decide)) ?_
      refine opsK_cons (by
       exact kind_n (opOk_run rfl (.inl rfl) (fun a W hW hsp => by
          have e78 : a.eval (.tmp 78) = .slice A12 ls2.length c12 := (hsp 78 (by kernel_rfl)).get rfl
          have g78 : a.tmps[78]?.getD undef = .slice A12 ls2.length c12 := by have h := e78; simp only [Act.eval, Array.getD_eq_getD_getElem?] at h; exact h
          refine ⟨.int .i64 ls2.length, ?_, sps rfl rfl⟩
          unfold execOp
          go_simp)) (by decide)) ?_
      refine opsK_cons (by
       exact kind_n (opOk_run rfl (.inl rfl) (fun a W hW hsp => by
          have e77 : a.eval (.tmp 77) = .int .i64 ls1.length := (hsp 77 (by kernel_rfl)).get rfl
          have e79 : a.eval (.tmp 79) = .int .i64 ls2.length := (hsp 79 (by kernel_rfl)).get rfl
          obtain ⟨hb1, hb2⟩ := HLB.out
          refine ⟨.int .i64 (ls1.length + ls2.length), ?_, sps rfl rfl⟩
          unfold execOp
          simp only [e77, e79]
          go_simp
          rw [IntKind.wrap_i64]; omega)) (by decide)) ?_
      refine opsK_cons (by
       exact kind_n (opOk_run rfl (.inl rfl) (fun a W hW hsp => by
          have e75 : a.eval (.tmp 75) = .int .i64 rs.length := (hsp 75 (by kernel_rfl)).get rfl
          have e80 : a.eval (.tmp 80) = .int .i64 (ls1.length + ls2.length) := (hsp 80 (by kernel_rfl)).get rfl
          have hd := HDL.out
          refine ⟨.bool false, ?_, sps rfl rfl⟩
          unfold execOp
          simp only [e75, e80]
          go_simp)) (by decide)) ?_
      refine opsK_cons (by
       exact kind_n (opOk_move rfl rfl (.inl rfl) (by kernel_rfl) (fun _ _ h => sps rfl (h.get rfl))) (by decide)) ?_
      refine opsK_cons (by
       exact kind_n (opOk_load (p := ⟨tb6, 0, none⟩) rfl rfl (.inr ⟨8, 82, false, rfl, rfl, (by kernel_rfl), fun _ _ h => h.get rfl⟩) (by kernel_rfl) (fun _ _ h => h.get rfl) (fun W hW => by
          obtain ⟨ce0, ce1, ce2, ce3, ce4, ce5, ce6, ce7⟩ := HKR.out W hW
          exact ⟨.agg #[.int .i64 SR.y, .int .i64 SR.i, .int .i64 SR.o, .map m1, .map m2, .int .i64 SR.tb, .int .i64 SR.tt, .map m3], by go_simp, sps rfl rfl⟩)) (by decide)) ?_
      refine opsK_cons (by
       exact kind_n (opOk_callg (fun a => #[a.eval (.tmp 83)]) rfl rfl (.inr ⟨8, 82, false, rfl, rfl, (by kernel_rfl), fun _ _ h => h.get rfl⟩) (fun a => by simp only [List.map_toArray, List.map_cons, List.map_nil] <;> rfl) (fun args W => by go_simp) (fun a W hW hsp => by
          have e83 : a.eval (.tmp 83) = .agg #[.int .i64 SR.y, .int .i64 SR.i, .int .i64 SR.o, .map m1, .map m2, .int .i64 SR.tb, .int .i64 SR.tt, .map m3] := (hsp 83 (by kernel_rfl)).get rfl
          simp only [e83]
          exact (HTR.out W hW).mono fun e w' ⟨he, hb⟩ => ⟨_, he, hb, sps rfl rfl⟩)) (by decide)) ?_
      refine opsK_cons (by
       exact kind_n (opOk_load (p := ⟨tb13, 0, none⟩) rfl rfl (.inr ⟨8, 82, false, rfl, rfl, (by kernel_rfl), fun _ _ h => h.get rfl⟩) (by kernel_rfl) (fun _ _ h => h.get rfl) (fun W hW => by
          obtain ⟨ce0, ce1, ce2, ce3, ce4, ce5, ce6, ce7⟩ := HK2.out W hW
          exact ⟨.agg #[.int .i64 S2.y, .int .i64 S2.i, .int .i64 S2.o, .map p1, .map p2, .int .i64 S2.tb, .int .i64 S2.tt, .map p3], by go_simp, sps rfl rfl⟩)) (by decide)) ?_
      refine opsK_cons (by
       exact kind_n (opOk_callg (fun a => #[a.eval (.tmp 85)]) rfl rfl (.inr ⟨8, 82, false, rfl, rfl, (by kernel_rfl), fun _ _ h => h.get rfl⟩) (fun a => by simp only [List.map_toArray, List.map_cons, List.map_nil] <;> rfl) (fun args W => by go_simp) (fun a W hW hsp => by
          have e85 : a.eval (.tmp 85) = .agg #[.int .i64 S2.y, .int .i64 S2.i, .int .i64 S2.o, .map p1, .map p2, .int .i64 S2.tb, .int .i64 S2.tt, .map p3] := (hsp 85 (by kernel_rfl)).get rfl
          simp only [e85]
          exact (HT2.out W hW).mono fun e w' ⟨he, hb⟩ => ⟨_, he, hb, sps rfl rfl⟩)) (by decide)) ?_
      refine opsK_cons (by
       exact kind_n (opOk_run rfl (.inr ⟨8, 82, false, rfl, rfl, (by kernel_rfl), fun _ _ h => h.get rfl⟩) (fun a W hW hsp => by
          have e84 : a.eval (.tmp 84) = .string TX := (hsp 84 (by kernel_rfl)).get rfl
          have e86 : a.eval (.tmp 86) = .string TX := (hsp 86 (by kernel_rfl)).get rfl
          refine ⟨.bool false, ?_, sps rfl rfl⟩
          unfold execOp
          simp only [e84, e86]
          go_simp)) (by decide)) ?_
      refine opsK_cons (by
       exact kind_n (opOk_run rfl (.inl rfl) (fun a W hW hsp => by
          have e82 : a.eval (.tmp 82) = .bool false := (hsp 82 (by kernel_rfl)).get rfl
          have e87 : a.eval (.tmp 87) = .bool false := (hsp 87 (by kernel_rfl)).get rfl
          refine ⟨.bool false, ?_, sps rfl rfl⟩
          unfold execOp
          simp only [e82, e87]
          go_simp)) (by decide)) ?_
      exact opsK_nil
    · intro vs W hb hsp _
      have z88 := (hsp 88).get rfl
      simp only [putAll]
      go_simp
      go_step
      go_meet
      exact ⟨z88, Lib.hid hb⟩
  case rest =>
  obtain ⟨rfl, HBY⟩ := hcut
  rename World => wd
  clear HK1b HK2 HT2 HTR HKR HDL
  have HO1d := Lib.hid ((HO1.out.2.below HBX.out).below HBY.out)
  have HO2d := Lib.hid (HO2.out.2.below HBY.out)
  have HOSd := Lib.hid ((HOS.out.2.below HBX.out).below HBY.out)
  have HBD : Hid (Below w.heap.size w wd) := Lib.hid (bTrans HBC.out.1 HBY.out)
  have hbe : Below wd.heap.size wd (wd.alloc (.cells #[] 37)) := bAlloc _ _
  have HBE2 := Lib.hid hbe
  go_wp2_with ((at_builtin; refine wpList_append_rows encSl_len encSl_one rfl _ _ 54 rfl wd.heap.size w1.heap.size 37 _ 40 Tryz.underlying54 slInfo rfl (by decide) _ _ [] ls1 rfl (Ao.ownEmpty (Bk.new wd 37 #[]) (Nat.le_refl _)) rfl (HO1d.out.below HBE2.out).1 (by have := HLB.out; simp; omega) (by decide) HBE2.out.size ?_))
  intro v6 w6 hown6 hgr6
  have hb6 : Below wd.heap.size wd w6 := HBE2.out.grown hgr6 HBE2.out.size (fun j hj => by simp [Value.ownBlock] at hj; omega)
  have HB6 := Lib.hid hb6
  have HO6 := Lib.hid hown6
  clear hown6 hgr6 hb6
  go_wp2_with ((at_builtin; refine wpList_append_rows encSl_len encSl_one rfl _ _ 54 rfl wd.heap.size B0 37 _ 40 Tryz.underlying54 slInfo rfl (by decide) v6 _ ([] ++ ls1) ls2 rfl HO6.out rfl (HO2d.out.below HB6.out).1 (by have := HLB.out; simp; omega) (by decide) HB6.out.size ?_))
  intro v7 w7 hown7 hgr7
  have HB7 : Hid (Below wd.heap.size wd w7) := Lib.hid (HB6.out.grown hgr7 HB6.out.size (fun j hj => (HO6.out.lt hj).1))
  obtain ⟨lsB, hlsB⟩ : ∃ z, ls1 ++ ls2 = z := ⟨_, rfl⟩
  rw [hlsB] at hown7
  have HOB := Lib.hid hown7
  obtain ⟨A15, c15, rfl, _⟩ := own_Sl encSl_len hown7
  have HLL : Hid (rs.map Prod.fst = lsB.map Prod.fst ∧ rs.length = lsB.length) := Lib.hid (by
    have h : rs.map Prod.fst = lsB.map Prod.fst := by rw [HLM.out, ← hlsB]; simp
    exact ⟨h, by have := congrArg List.length h; simpa using this⟩)
  have HLI : Hid (∀ x ∈ lsB, ∃ Bq, Own encLi 3 64 Bq (.slice x.2.1 x.1.2.2.length x.2.2) x.1.2.2 wd) := Lib.hid (fun x hx => by
    rw [← hlsB] at hx
    rw [List.mem_append] at hx
    rcases hx with hx | hx
    · exact ⟨_, HO1d.out.2 x hx⟩
    · exact ⟨_, HO2d.out.2 x hx⟩)
  have HR9 : Hid (rs.length ≤ 2000) := Lib.hid (by have := HLN.out; have := HLB.out; omega)
  have hr9 := HR9.out
  clear hown7 hgr7 hlsB hbe
  go_wp2_with fail
  go_loopg [16] rs.length (fun kk jv wz => ∃ (j : Nat), j + kk = rs.length ∧ jv = .int .i64 j ∧ Hid (Below wd.heap.size wd wz ∧ Below w7.heap.size w7 wz))
  case atStart => exact ⟨0, Nat.zero_add _, rfl, Lib.hid ⟨HB7.out, Below.refl _ _⟩⟩
  case round =>
    obtain ⟨j, hj, rfl, HBZ⟩ := hrel
    rename World => wz
    by_cases hlt : j < rs.length
    · have hll := HLL.out.2
      have hrl : j < lsB.length := by omega
      obtain ⟨g7, cap7, he7, _, hrw7⟩ := HOB.out.row encSl_len (by intro h; simp [h] at hrl)
      obtain ⟨g3, cap3, he3, _, hrw3⟩ := HOSd.out.1.row encSl_len (by intro h; simp [h] at hlt)
      have ha7 : A15 = some ⟨g7, 0, none⟩ := by injection he7
      have ha3 : A3 = some ⟨g3, 0, none⟩ := by injection he3
      clear he7 he3 hll
      subst ha7 ha3
      obtain ⟨⟨⟨y5, i5, l5⟩, A6, c6⟩, hx7⟩ : ∃ x, lsB[j]? = some x := ⟨_, List.getElem?_eq_getElem hrl⟩
      obtain ⟨⟨⟨y6, i6, l6⟩, A5, c5⟩, hx3⟩ : ∃ x, rs[j]? = some x := ⟨_, List.getElem?_eq_getElem hlt⟩
      have hxe : ((y5, i5, l5) : Slp) = (y6, i6, l6) := by
        have h := congrArg (fun z => z[j]?) HLL.out.1
        simp only [List.getElem?_map, hx7, hx3, Option.map_some, Option.some.injEq] at h
        exact h.symm
      simp only [Prod.mk.injEq] at hxe
      obtain ⟨rfl, rfl, rfl⟩ := hxe
      have h448 : l5.length ≤ 448 := H448.out (y5, i5, l5) (by rw [← HOS.out.1]; exact List.mem_map.2 ⟨_, List.mem_of_getElem? hx3, rfl⟩)
      obtain ⟨Bq, hq⟩ := HLI.out _ (List.mem_of_getElem? hx7)
      have HKX : Hid (∀ W, Below wz.heap.size wz W → (W.cell? ⟨g3, j * 3, none⟩ = some (.int .i64 y5) ∧ W.cell? ⟨g3, j * 3 + 1, none⟩ = some (.int .i64 i5) ∧ W.cell? ⟨g3, j * 3 + 2, none⟩ = some (.slice A5 l5.length c5)) ∧ W.cell? ⟨g7, j * 3, none⟩ = some (.int .i64 y5) ∧ W.cell? ⟨g7, j * 3 + 1, none⟩ = some (.int .i64 i5) ∧ W.cell? ⟨g7, j * 3 + 2, none⟩ = some (.slice A6 l5.length c6)) := Lib.hid (fun W hW => by
        have r3 := hrw3.below (bTrans HBZ.out.1 hW) hrw3.lt
        have r7 := hrw7.below (bTrans HBZ.out.2 hW) hrw7.lt
        exact ⟨⟨r3.cell hx3 (j := 0) rfl, r3.cell hx3 (j := 1) rfl, r3.cell hx3 (j := 2) rfl⟩, r7.cell hx7 (j := 0) rfl, r7.cell hx7 (j := 1) rfl, r7.cell hx7 (j := 2) rfl⟩)
      have HSA : Hid (∀ W, Below wz.heap.size wz W → Calls Tryz.prog 15 #[.agg #[.int .i64 y5, .int .i64 i5, .slice A5 l5.length c5], .agg #[.int .i64 y5, .int .i64 i5, .slice A6 l5.length c6]] W fun e w' => e = .returned (.bool true) ∧ Below W.heap.size W w') := Lib.hid (fun W hW => by
        have hbw : Below wd.heap.size wd W := bTrans HBZ.out.1 hW
        obtain ⟨Aa, ca, h1, h2⟩ := own_Sl encLi_len ((HOSd.out.2 _ (List.mem_of_getElem? hx3)))
        obtain ⟨Ab, cb, h3, h4⟩ := own_Sl encLi_len hq
        injection h1 with h1
        injection h3 with h3
        rw [← h1] at h2
        rw [← h3] at h4
        exact la_same y5 i5 l5 A5 A6 c5 c6 W (by omega) (h2.below hbw) (h4.below hbw))
      clear hrw7 hrw3 hx7 hx3 h448 hq
      go_upto_region 19 with fail
      go_cut [109] from 100 to 108 (fun v wx => v = .bool false ∧ Hid (Below wz.heap.size wz wx))
      case first =>
        refine wp_region_mk (SPS [(5, Sp.val (.slice (some ⟨g3, 0, none⟩) rs.length c3)), (16, Sp.val (.int .i64 j)), (15, Sp.val (.slice (some ⟨g7, 0, none⟩) lsB.length c15)), (102, Sp.val (.pointer (some ⟨g3, j * 3, none⟩))), (103, Sp.val (.agg #[.int .i64 y5, .int .i64 i5, .slice A5 l5.length c5])), (106, Sp.val (.pointer (some ⟨g7, j * 3, none⟩))), (107, Sp.val (.agg #[.int .i64 y5, .int .i64 i5, .slice A6 l5.length c6])), (108, Sp.val (.bool true)), (109, Sp.val (.bool false)), (100, Sp.val (.slice (some ⟨g3, 0, none⟩) rs.length c3)), (101, Sp.val (.int .i64 j)), (104, Sp.val (.slice (some ⟨g7, 0, none⟩) lsB.length c15)), (105, Sp.val (.int .i64 j))]) [] [100, 101, 102, 103, 104, 105, 106, 107, 108, 109] rfl (by rfl) (by kernel_rfl) (SPS.st _) ?_ ?_ ?_ (by decide) (by rfl) ?_ (opsK_all ?_) ?_
        · exact nil_all
        · exact nil_all
        · exact nil_all
        · exact sps_start (cons_all rfl (cons_all rfl (cons_all rfl (nil_all))))
        · refine opsK_cons (by
           exact kind_n (opOk_move rfl rfl (.inl rfl) (by kernel_rfl) (fun _ _ h => sps rfl (h.get rfl))) (by decide)) ?_
          refine opsK_cons (by
           exact kind_n (opOk_move rfl rfl (.inl rfl) (by kernel_rfl) (fun _ _ h => sps rfl (h.get rfl))) (by decide)) ?_
          refine opsK_cons (by
           exact kind_n (opOk_run rfl (.inl rfl) (fun a W hW hsp => by
              have e100 : a.eval (.tmp 100) = .slice (some ⟨g3, 0, none⟩) rs.length c3 := (hsp 100 (by kernel_rfl)).get rfl
              have e101 : a.eval (.tmp 101) = .int .i64 j := (hsp 101 (by kernel_rfl)).get rfl
              refine ⟨.pointer (some ⟨g3, j * 3, none⟩), ?_, sps rfl rfl⟩
              unfold execOp
              simp only [e100, e101]
              go_simp)) (by decide)) ?_
          refine opsK_cons (by
           exact kind_n (opOk_load (p := ⟨g3, j * 3, none⟩) rfl rfl (.inl rfl) (by kernel_rfl) (fun _ _ h => h.get rfl) (fun W hW => by
              obtain ⟨⟨q0, q1, q2⟩, _⟩ := HKX.out W hW
              exact ⟨.agg #[.int .i64 y5, .int .i64 i5, .slice A5 l5.length c5], by go_simp, sps rfl rfl⟩)) (by decide)) ?_
          refine opsK_cons (by
           exact kind_n (opOk_move rfl rfl (.inl rfl) (by kernel_rfl) (fun _ _ h => sps rfl (h.get rfl))) (by decide)) ?_
          refine opsK_cons (by
           exact kind_n (opOk_move rfl rfl (.inl rfl) (by kernel_rfl) (fun _ _ h => sps rfl (h.get rfl))) (by decide)) ?_
          refine opsK_cons (by
           exact kind_n (opOk_run rfl (.inl rfl) (fun a W hW hsp => by
              have e104 : a.eval (.tmp 104) = .slice (some ⟨g7, 0, none⟩) lsB.length c15 := (hsp 104 (by kernel_rfl)).get rfl
              have e105 : a.eval (.tmp 105) = .int .i64 j := (hsp 105 (by kernel_rfl)).get rfl
              refine ⟨.pointer (some ⟨g7, j * 3, none⟩), ?_, sps rfl rfl⟩
              unfold execOp
              simp only [e104, e105]
              go_simp)) (by decide)) ?_
          refine opsK_cons (by
           exact kind_n (opOk_load (p := ⟨g7, j * 3, none⟩) rfl rfl (.inl rfl) (by kernel_rfl) (fun _ _ h => h.get rfl) (fun W hW => by
              obtain ⟨_, q0, q1, q2⟩ := HKX.out W hW
              exact ⟨.agg #[.int .i64 y5, .int .i64 i5, .slice A6 l5.length c6], by go_simp, sps rfl rfl⟩)) (by decide)) ?_
          refine opsK_cons (by
           exact kind_n (opOk_callg (fun a => #[a.eval (.tmp 103), a.eval (.tmp 107)]) rfl rfl (.inl rfl) (fun a => by simp only [List.map_toArray, List.map_cons, List.map_nil] <;> rfl) (fun args W => by go_simp) (fun a W hW hsp => by
              have e103 : a.eval (.tmp 103) = .agg #[.int .i64 y5, .int .i64 i5, .slice A5 l5.length c5] := (hsp 103 (by kernel_rfl)).get rfl
              have e107 : a.eval (.tmp 107) = .agg #[.int .i64 y5, .int .i64 i5, .slice A6 l5.length c6] := (hsp 107 (by kernel_rfl)).get rfl
              simp only [e103, e107]
              exact (HSA.out W hW).mono fun e w' ⟨he, hb⟩ => ⟨_, he, hb, sps rfl rfl⟩)) (by decide)) ?_
          refine opsK_cons (by
           exact kind_n (opOk_run rfl (.inl rfl) (fun a W hW hsp => by
              have e108 : a.eval (.tmp 108) = .bool true := (hsp 108 (by kernel_rfl)).get rfl
              refine ⟨.bool false, ?_, sps rfl rfl⟩
              unfold execOp
              simp only [e108]
              go_simp)) (by decide)) ?_
          exact opsK_nil
        · intro vs W hb hsp _
          have z109 := (hsp 109).get rfl
          simp only [putAll]
          go_simp
          go_step
          go_meet
          exact ⟨z109, Lib.hid hb⟩
      case rest =>
      obtain ⟨rfl, HBW⟩ := hcut
      go_wp2
      go_roundg (rs.length - (j + 1))
      case measure => omega
      case rel => exact ⟨j + 1, by omega, by go_num, Lib.hid ⟨bTrans HBZ.out.1 HBW.out, bTrans HBZ.out.2 HBW.out⟩⟩
    · obtain rfl : j = rs.length := by omega
      have HBF : Hid (Below w.heap.size w wz) := Lib.hid (bTrans HBD.out HBZ.out.1)
      go_wp2_with (go_at_call 12; refine (HAW.out _ HBF.out).mono ?_; rintro e w6 ⟨rfl, hb6⟩)
      go_ret
      exact ⟨rfl, bTrans HBF.out hb6⟩
end Go.Proofs.YtheaacliomfkoaaGreatDoor
