/- Out of: Yl4. -/
import Derived.Test.YtheaacliomfkoaaGreatDoorZfah
import Derived.Deep.RegionHeld3
/- year's laws: the walk of YearFolds (gen/mkyl4.py). -/
namespace Go.Proofs.YtheaacliomfkoaaGreatDoor
open Go.RowKit Go.Sort Go.BigFrame Go.Maps

set_option maxHeartbeats 4000000 in
set_option maxRecDepth 100000 in
theorem lw_YearFolds (l : List (Mon × MoA)) (A : Option Addr) (cap : Nat) (w : World) (hl : l.length ≤ 140737488355328) (hs : InMo w A l) (hT : TbP w) :
    Calls Tryz.prog 4 #[.slice A l.length cap] w fun e w' => e = .returned (.bool true) ∧ Below w.heap.size w w' := by
  obtain ⟨G, hG⟩ : ∃ g, greatB (l.map Prod.fst) = g := ⟨_, rfl⟩
  have HGR : Hid (Calls Tryz.prog 11 #[.slice A l.length cap] w fun e w' => e = .returned (.bool G) ∧ Below w.heap.size w w') := Lib.hid (by rw [← hG]; exact la_greatI l A cap w hl hs)
  have HG := Lib.hid hG
  have HS := Lib.hid hs
  have HT := Lib.hid hT
  have HAW : Hid (∀ W, Below w.heap.size w W → Calls Tryz.prog 12 #[] W fun e w' => e = .returned (.bool true) ∧ Below W.heap.size W w') := Lib.hid (fun W hW => la_awake28 W (hT.below hW))
  clear hG hs hT
  go_enter Tryz.func4, Tryz.ntmps4
  go_wp2_with fail
  refine HGR.out.mono ?_
  rintro e w1 ⟨rfl, hb1⟩
  have HB1 := Lib.hid hb1
  cases G with
  | true =>
    go_wp2_with fail
    refine (HAW.out _ HB1.out).mono ?_
    rintro e w2 ⟨rfl, hb2⟩
    go_wp2
    go_ret
    exact ⟨rfl, bTrans HB1.out hb2⟩
  | false =>
  obtain ⟨hsm, hl30⟩ := (HS.out.below hb1).ok HG.out
  have HSM := Lib.hid hsm
  obtain ⟨⟨slR, SR, eR⟩, hR⟩ : ∃ R, foldM (l.map Prod.fst) = R := ⟨_, rfl⟩
  have HFO : Hid (Calls Tryz.prog 18 #[.slice A l.length cap] w1 fun e w' => ResF (slR, SR, eR) 1572864 w1 e w') := Lib.hid (by rw [← hR]; exact yr_Fold l A cap w1 (by omega) hsm (HT.out.below hb1).tb)
  have HRB : Hid (StB 1572864 SR) := Lib.hid (by have := fold_StB (l.map Prod.fst); rw [hR] at this; exact this)
  have HR : Hid (resGo Ste.none Ste.none [] (l.map Prod.fst) = (slR, SR, eR)) := Lib.hid (by rw [← hR]; unfold foldM resM; rw [if_neg (by rw [List.length_map]; omega)])
  clear hb1 hsm hR
  go_wp2_with fail
  refine HFO.out.mono ?_
  rintro e w2 ⟨⟨vb, vs, vo⟩, sv, rs, hee, hrs, hos, hst, hb2⟩
  obtain ⟨m1, h1⟩ := hst.be.form
  obtain ⟨m2, h2⟩ := hst.so.form
  obtain ⟨m3, h3⟩ := hst.od.form
  dsimp only at h1 h2 h3
  subst h1 h2 h3
  obtain ⟨A3, c3, rfl, _⟩ := own_Sl encSl_len hos.1
  replace hee : e = .returned (.tuple #[.slice A3 rs.length c3, .agg #[.int .i64 SR.y, .int .i64 SR.i, .int .i64 SR.o, .map m1, .map m2, .int .i64 SR.tb, .int .i64 SR.tt, .map m3], .int .i64 eR]) := hee
  subst hee
  obtain ⟨tb4, htb⟩ : ∃ x, w2.heap.size = x := ⟨_, rfl⟩
  obtain ⟨tb6, htb6⟩ : ∃ x, tb4 + 1 = x := ⟨_, rfl⟩
  obtain ⟨w3, hw3⟩ : ∃ x, w2.alloc (.cells #[.int .i64 SR.y, .int .i64 SR.i, .int .i64 SR.o, .map m1, .map m2, .int .i64 SR.tb, .int .i64 SR.tt, .map m3] 32) = x := ⟨_, rfl⟩
  obtain ⟨w4, hw4⟩ : ∃ x, w3.alloc (.cells #[.int .i64 0, .int .i64 0, .int .i64 0, .map none, .map none, .int .i64 0, .int .i64 0, .map none] 32) = x := ⟨_, rfl⟩
  have z3 : w3.heap.size = tb6 := by rw [← hw3]; simp; omega
  have g3 : Below w2.heap.size w2 w3 := by rw [← hw3]; exact bAlloc _ _
  have g4 : Below w3.heap.size w3 w4 := by rw [← hw4]; exact bAlloc _ _
  have HK4 : Hid (Bk tb4 32 #[.int .i64 SR.y, .int .i64 SR.i, .int .i64 SR.o, .map m1, .map m2, .int .i64 SR.tb, .int .i64 SR.tt, .map m3] w4) := Lib.hid (bkBel (by rw [← hw3, ← htb]; exact Bk.new _ _ _) g4)
  have HK6 : Hid (Bk tb6 32 (stC Ste.none StA.none) w4) := Lib.hid (by rw [← hw4, ← z3]; exact Bk.new _ _ _)
  have g24 : Below w2.heap.size w2 w4 := bTrans g3 g4
  have HOS : Hid (OwnSl w1.heap.size (.slice A3 rs.length c3) rs w4) := Lib.hid (hos.below g24)
  have HSR : Hid (StOk SR ⟨.map m1, .map m2, .map m3⟩ 1572864 w4) := Lib.hid (hst.below g24)
  have HRS := Lib.hid hrs
  have HB4 : Hid (Below w.heap.size w w4) := Lib.hid (bTrans HB1.out (bTrans hb2 g24))
  have HB14 : Hid (Below w1.heap.size w1 w4) := Lib.hid (bTrans hb2 g24)
  have HWF : Hid (w2.heap.size = tb4 ∧ w2.alloc (.cells #[.int .i64 SR.y, .int .i64 SR.i, .int .i64 SR.o, .map m1, .map m2, .int .i64 SR.tb, .int .i64 SR.tt, .map m3] 32) = w3 ∧ w3.heap.size = tb6 ∧ w3.alloc (.cells #[.int .i64 0, .int .i64 0, .int .i64 0, .map none, .map none, .int .i64 0, .int .i64 0, .map none] 32) = w4) := Lib.hid ⟨htb, hw3, z3, hw4⟩
  obtain ⟨B0, hB0⟩ : ∃ x, w4.heap.size = x := ⟨_, rfl⟩
  have HNE : Hid (w1.heap.size ≤ tb4 ∧ tb4 < tb6 ∧ tb6 < B0 ∧ w4.heap.size = B0 ∧ w.heap.size ≤ w1.heap.size) := Lib.hid ⟨by have := hb2.size; omega, by omega, by have := HK6.out.lt; omega, hB0, HB1.out.size⟩
  have HFR : Hid (∀ j, (Value.slice A3 rs.length c3).ownBlock = some j → j < tb4) := Lib.hid (fun j hj => by have := (hos.1.lt hj).2; omega)
  clear hrs hos hst hb2 g3 g4 g24 z3 htb htb6 hw3 hw4 hB0 HFO
  go_upto_region 4 with fail
  rw [HWF.out.2.1, HWF.out.1]
  go_upto_region 5 with fail
  rw [HWF.out.2.2.2, HWF.out.2.2.1]
  clear HWF
  go_wp2_with fail
  go_loopg [7, 8] l.length (fun kk ov iv wr => ∃ (sv : Value) (n : Nat) (now : Ste) (Vn : StA) (ls : List (Slp × (Option Addr × Nat))), sv = ov ∧ n + kk = l.length ∧ iv = .int .i64 n ∧ Hid (resGo Ste.none now (ls.map Prod.fst) ((l.map Prod.fst).drop n) = (slR, SR, eR)) ∧ Hid (StOk now Vn (384 * n) wr ∧ StB (384 * n) now) ∧ Hid (Bk tb6 32 (stC now Vn) wr) ∧ Hid (OwnSl B0 ov ls wr) ∧ Hid (ls.length ≤ n) ∧ Hid (Bk tb4 32 #[.int .i64 SR.y, .int .i64 SR.i, .int .i64 SR.o, .map m1, .map m2, .int .i64 SR.tb, .int .i64 SR.tt, .map m3] wr ∧ StOk SR ⟨.map m1, .map m2, .map m3⟩ 1572864 wr ∧ OwnSl w1.heap.size (.slice A3 rs.length c3) rs wr ∧ (∀ j, (Value.slice A3 rs.length c3).ownBlock = some j → j < tb4)) ∧ Hid (Below w.heap.size w wr ∧ Below w1.heap.size w1 wr ∧ B0 ≤ wr.heap.size))
  case atStart => exact ⟨_, 0, Ste.none, StA.none, [], rfl, Nat.zero_add _, rfl, HR, Lib.hid ⟨StOk.none, StB.none⟩, HK6, Lib.hid OwnSl.nil, Lib.hid (Nat.zero_le _), Lib.hid ⟨HK4.out, HSR.out, HOS.out, HFR.out⟩, Lib.hid ⟨HB4.out, HB14.out, Nat.le_of_eq HNE.out.2.2.2.1.symm⟩⟩
  case round =>
    obtain ⟨ov, n, now, Vn, ls, rfl, hn1, rfl, HA, HST, HKW, HOW, HLL, HKF, HBW⟩ := hrel
    have HR0 := HR
    clear HR HK4 HK6 HOS HSR HB4 HB14 HFR
    obtain ⟨vb, vs, vo⟩ := Vn
    obtain ⟨n1, h1⟩ := HST.out.1.be.form
    obtain ⟨n2, h2⟩ := HST.out.1.so.form
    obtain ⟨n3, h3⟩ := HST.out.1.od.form
    dsimp only at h1 h2 h3
    subst h1 h2 h3
    have HKN : Hid (∀ W, Below wr.heap.size wr W → W.cell? ⟨tb6, 0, none⟩ = some (.int .i64 now.y) ∧ W.cell? ⟨tb6, 1, none⟩ = some (.int .i64 now.i) ∧ W.cell? ⟨tb6, 2, none⟩ = some (.int .i64 now.o) ∧ W.cell? ⟨tb6, 3, none⟩ = some (.map n1) ∧ W.cell? ⟨tb6, 4, none⟩ = some (.map n2) ∧ W.cell? ⟨tb6, 5, none⟩ = some (.int .i64 now.tb) ∧ W.cell? ⟨tb6, 6, none⟩ = some (.int .i64 now.tt) ∧ W.cell? ⟨tb6, 7, none⟩ = some (.map n3)) := Lib.hid (fun W hW => by
      have h := bkBel HKW.out hW
      exact ⟨h.cell 0, h.cell 1, h.cell 2, h.cell 3, h.cell 4, h.cell 5, h.cell 6, h.cell 7⟩)
    by_cases hlt : n < l.length
    · obtain ⟨b, off, rfl, hB, hc⟩ := (HSM.out.1) (by intro h; simp [h] at hlt)
      obtain ⟨⟨M, MA⟩, hx⟩ : ∃ x, l[n]? = some x := ⟨_, List.getElem?_eq_getElem hlt⟩
      have HM : Hid (MoOk M MA w1) := Lib.hid (HSM.out.2 _ (List.mem_of_getElem? hx))
      have hdrop : (l.map Prod.fst).drop n = M :: (l.map Prod.fst).drop (n + 1) := drop_get (by rw [List.getElem?_map, hx]; rfl)
      obtain ⟨⟨S2, ⟨y2, i2, l2⟩, e2⟩, hq⟩ : ∃ q, stepM now M = q := ⟨_, rfl⟩
      have HD : Hid ((if e2 ≠ 0 then ([], Ste.none, e2) else resGo Ste.none S2 (ls.map Prod.fst ++ [(y2, i2, l2)]) ((l.map Prod.fst).drop (n + 1))) = (slR, SR, eR)) := Lib.hid (by
        have h : resGo Ste.none now (ls.map Prod.fst) (M :: (l.map Prod.fst).drop (n + 1)) = if (stepM now M).2.2 ≠ 0 then ([], Ste.none, (stepM now M).2.2) else resGo Ste.none (stepM now M).1 (ls.map Prod.fst ++ [(stepM now M).2.1]) ((l.map Prod.fst).drop (n + 1)) := rfl
        rw [← HA.out, hdrop, h, hq])
      have HS2 : Hid (StB (384 * (n + 1)) S2) := Lib.hid (by have h := step_StB (M := M) HST.out.2; rw [hq] at h; exact h.mono (by omega))
      have HKM : Hid (∀ W, Below wr.heap.size wr W → W.cell? ⟨b, off + n * 12, none⟩ = some (.int .i64 M.y) ∧ W.cell? ⟨b, off + n * 12 + 1, none⟩ = some (.int .i64 M.i) ∧ W.cell? ⟨b, off + n * 12 + 2, none⟩ = some (.int .i64 M.o) ∧ W.cell? ⟨b, off + n * 12 + 3, none⟩ = some (.slice MA.gr.1 M.gr.length MA.gr.2) ∧ W.cell? ⟨b, off + n * 12 + 4, none⟩ = some (.slice MA.be.1 M.be.length MA.be.2) ∧ W.cell? ⟨b, off + n * 12 + 5, none⟩ = some (.slice MA.af.1 M.af.length MA.af.2) ∧ W.cell? ⟨b, off + n * 12 + 6, none⟩ = some (.slice MA.li.1 M.li.length MA.li.2) ∧ W.cell? ⟨b, off + n * 12 + 7, none⟩ = some (.slice MA.sc.1 M.sc.length MA.sc.2) ∧ W.cell? ⟨b, off + n * 12 + 8, none⟩ = some (.int .i64 M.al) ∧ W.cell? ⟨b, off + n * 12 + 9, none⟩ = some (.int .i64 M.ex) ∧ W.cell? ⟨b, off + n * 12 + 10, none⟩ = some (.slice MA.ba.1 M.ba.length MA.ba.2) ∧ W.cell? ⟨b, off + n * 12 + 11, none⟩ = some (.slice MA.od.1 M.od.length MA.od.2)) := Lib.hid (fun W hW => by
        have hbw : Below w1.heap.size w1 W := bTrans HBW.out.2.1 hW
        exact ⟨(hbw.cell (p := ⟨b, off + n * 12, none⟩) hB).trans (by simpa using hc n _ hx 0 _ rfl), (hbw.cell (p := ⟨b, off + n * 12 + 1, none⟩) hB).trans (hc n _ hx 1 _ rfl), (hbw.cell (p := ⟨b, off + n * 12 + 2, none⟩) hB).trans (hc n _ hx 2 _ rfl), (hbw.cell (p := ⟨b, off + n * 12 + 3, none⟩) hB).trans (hc n _ hx 3 _ rfl), (hbw.cell (p := ⟨b, off + n * 12 + 4, none⟩) hB).trans (hc n _ hx 4 _ rfl), (hbw.cell (p := ⟨b, off + n * 12 + 5, none⟩) hB).trans (hc n _ hx 5 _ rfl), (hbw.cell (p := ⟨b, off + n * 12 + 6, none⟩) hB).trans (hc n _ hx 6 _ rfl), (hbw.cell (p := ⟨b, off + n * 12 + 7, none⟩) hB).trans (hc n _ hx 7 _ rfl), (hbw.cell (p := ⟨b, off + n * 12 + 8, none⟩) hB).trans (hc n _ hx 8 _ rfl), (hbw.cell (p := ⟨b, off + n * 12 + 9, none⟩) hB).trans (hc n _ hx 9 _ rfl), (hbw.cell (p := ⟨b, off + n * 12 + 10, none⟩) hB).trans (hc n _ hx 10 _ rfl), (hbw.cell (p := ⟨b, off + n * 12 + 11, none⟩) hB).trans (hc n _ hx 11 _ rfl)⟩)
      have HST2 : Hid (∀ W, Below wr.heap.size wr W → Calls Tryz.prog 13 #[.agg #[.int .i64 now.y, .int .i64 now.i, .int .i64 now.o, .map n1, .map n2, .int .i64 now.tb, .int .i64 now.tt, .map n3], .agg #[.int .i64 M.y, .int .i64 M.i, .int .i64 M.o, .slice MA.gr.1 M.gr.length MA.gr.2, .slice MA.be.1 M.be.length MA.be.2, .slice MA.af.1 M.af.length MA.af.2, .slice MA.li.1 M.li.length MA.li.2, .slice MA.sc.1 M.sc.length MA.sc.2, .int .i64 M.al, .int .i64 M.ex, .slice MA.ba.1 M.ba.length MA.ba.2, .slice MA.od.1 M.od.length MA.od.2]] W fun e w' => ∃ v, e = .returned v ∧ Below W.heap.size W w' ∧ (spStep S2 (384 * (n + 1)) B0 (y2, i2, l2) e2).p v w') := Lib.hid (fun W hW => by
        have hbw : Below w1.heap.size w1 W := bTrans HBW.out.2.1 hW
        have h := yr_StepV now ⟨.map n1, .map n2, .map n3⟩ M MA (384 * n) W (HST.out.1.below hW) (by omega) (HM.out.below hbw) ((HT.out.below HB1.out).below hbw).tb B0 (by have := HBW.out.2.2; have := hW.size; omega) hq
        exact h)
      have HSTN := HST
      replace HST := HST2
      clear HST2 hc hx hdrop hq HA
      go_upto_region 9 with fail
      go_cut [9, 10, 11] from 28 to 37 (fun sp xp ev wx => ∃ tb9 xb p1 p2 p3 A2 cap2, sp = .pointer (some ⟨tb9, 0, none⟩) ∧ xp = .pointer (some ⟨xb, 0, none⟩) ∧ ev = .int .i64 e2 ∧ Hid (wr.heap.size ≤ tb9 ∧ wr.heap.size ≤ xb ∧ Bk tb9 32 #[.int .i64 S2.y, .int .i64 S2.i, .int .i64 S2.o, .map p1, .map p2, .int .i64 S2.tb, .int .i64 S2.tt, .map p3] wx ∧ Bk xb 37 #[.int .i64 y2, .int .i64 i2, .slice A2 l2.length cap2] wx) ∧ Hid (Own encLi 3 64 B0 (.slice A2 l2.length cap2) l2 wx) ∧ Hid (StOk S2 ⟨.map p1, .map p2, .map p3⟩ (384 * (n + 1)) wx) ∧ Hid (Below wr.heap.size wr wx))
      case first =>
        refine wp_region_mn (SPS [(6, Sp.val (.pointer (some ⟨tb6, 0, none⟩))), (0, Sp.val (.slice (some ⟨b, off, none⟩) l.length cap)), (8, Sp.val (.int .i64 n)), (29, Sp.val (.agg #[.int .i64 now.y, .int .i64 now.i, .int .i64 now.o, .map n1, .map n2, .int .i64 now.tb, .int .i64 now.tt, .map n3])), (32, Sp.val (.pointer (some ⟨b, off + n * 12, none⟩))), (33, Sp.val (.agg #[.int .i64 M.y, .int .i64 M.i, .int .i64 M.o, .slice MA.gr.1 M.gr.length MA.gr.2, .slice MA.be.1 M.be.length MA.be.2, .slice MA.af.1 M.af.length MA.af.2, .slice MA.li.1 M.li.length MA.li.2, .slice MA.sc.1 M.sc.length MA.sc.2, .int .i64 M.al, .int .i64 M.ex, .slice MA.ba.1 M.ba.length MA.ba.2, .slice MA.od.1 M.od.length MA.od.2])), (34, spStep S2 (384 * (n + 1)) B0 (y2, i2, l2) e2), (35, spSt S2 (384 * (n + 1))), (36, spSl B0 (y2, i2, l2)), (37, Sp.val (.int .i64 e2)), (30, Sp.val (.slice (some ⟨b, off, none⟩) l.length cap)), (31, Sp.val (.int .i64 n)), (28, spStep S2 (384 * (n + 1)) B0 (y2, i2, l2) e2), (11, Sp.val (.int .i64 e2))]) [⟨10, 12, 9, 35, 32, 8⟩, ⟨11, 13, 10, 36, 37, 3⟩] [29, 30, 31, 32, 33, 34, 28, 35, 36, 37, 9, 10, 11] rfl (by rfl) (by kernel_rfl) (SPS.st _) ?_ ?_ ?_ (by decide) (by rfl) ?_ (opsK_all ?_) ?_
        · exact fun p hp t v w b y w2 _ hb hk h => sps_kst (cons_all (by first | exact kst_val _ | exact kst_st _ _ | exact kst_sl _ _ | exact kst_step _ _ _ _ _) (cons_all (by first | exact kst_val _ | exact kst_st _ _ | exact kst_sl _ _ | exact kst_step _ _ _ _ _) (cons_all (by first | exact kst_val _ | exact kst_st _ _ | exact kst_sl _ _ | exact kst_step _ _ _ _ _) (cons_all (by first | exact kst_val _ | exact kst_st _ _ | exact kst_sl _ _ | exact kst_step _ _ _ _ _) (cons_all (by first | exact kst_val _ | exact kst_st _ _ | exact kst_sl _ _ | exact kst_step _ _ _ _ _) (cons_all (by first | exact kst_val _ | exact kst_st _ _ | exact kst_sl _ _ | exact kst_step _ _ _ _ _) (cons_all (by first | exact kst_val _ | exact kst_st _ _ | exact kst_sl _ _ | exact kst_step _ _ _ _ _) (cons_all (by first | exact kst_val _ | exact kst_st _ _ | exact kst_sl _ _ | exact kst_step _ _ _ _ _) (cons_all (by first | exact kst_val _ | exact kst_st _ _ | exact kst_sl _ _ | exact kst_step _ _ _ _ _) (cons_all (by first | exact kst_val _ | exact kst_st _ _ | exact kst_sl _ _ | exact kst_step _ _ _ _ _) (cons_all (by first | exact kst_val _ | exact kst_st _ _ | exact kst_sl _ _ | exact kst_step _ _ _ _ _) (cons_all (by first | exact kst_val _ | exact kst_st _ _ | exact kst_sl _ _ | exact kst_step _ _ _ _ _) (cons_all (by first | exact kst_val _ | exact kst_st _ _ | exact kst_sl _ _ | exact kst_step _ _ _ _ _) (cons_all (by first | exact kst_val _ | exact kst_st _ _ | exact kst_sl _ _ | exact kst_step _ _ _ _ _) (nil_all))))))))))))))) (by simp only [List.mem_cons, List.not_mem_nil, or_false] at hp; rcases hp with rfl | rfl <;> first | exact Or.inl rfl | exact Or.inr rfl) hb.bk hk h
        · intro p hp v w s hs
          simp only [List.mem_cons, List.not_mem_nil, or_false] at hp
          rcases hp with rfl | rfl
          all_goals cases hs
        · intro p hp
          simp only [List.mem_cons, List.not_mem_nil, or_false] at hp
          rcases hp with rfl | rfl
          all_goals exact ⟨_, rfl, by kernel_rfl, by kernel_rfl⟩
        · exact sps_start (cons_all rfl (cons_all rfl (cons_all rfl (nil_all))))
        · refine opsK_cons (by
           exact kindn_n (opOk_load (p := ⟨tb6, 0, none⟩) rfl rfl (.inl rfl) (by kernel_rfl) (fun _ _ h => h.get rfl) (fun W hW => by
              obtain ⟨q0, q1, q2, q3, q4, q5, q6, q7⟩ := HKN.out W hW
              exact ⟨.agg #[.int .i64 now.y, .int .i64 now.i, .int .i64 now.o, .map n1, .map n2, .int .i64 now.tb, .int .i64 now.tt, .map n3], by go_simp, sps rfl rfl⟩)) (by decide)) ?_
          refine opsK_cons (by
           exact kindn_n (opOk_move rfl rfl (.inl rfl) (by kernel_rfl) (fun _ _ h => sps rfl (h.get rfl))) (by decide)) ?_
          refine opsK_cons (by
           exact kindn_n (opOk_move rfl rfl (.inl rfl) (by kernel_rfl) (fun _ _ h => sps rfl (h.get rfl))) (by decide)) ?_
          refine opsK_cons (by
           exact kindn_n (opOk_run rfl (.inl rfl) (fun a W hW hsp => by
              have e30 : a.eval (.tmp 30) = .slice (some ⟨b, off, none⟩) l.length cap := (hsp 30 (by kernel_rfl)).get rfl
              have e31 : a.eval (.tmp 31) = .int .i64 n := (hsp 31 (by kernel_rfl)).get rfl
              refine ⟨.pointer (some ⟨b, off + n * 12, none⟩), ?_, sps rfl rfl⟩
              unfold execOp
              simp only [e30, e31]
              go_simp)) (by decide)) ?_
          refine opsK_cons (by
           exact kindn_n (opOk_load (p := ⟨b, off + n * 12, none⟩) rfl rfl (.inl rfl) (by kernel_rfl) (fun _ _ h => h.get rfl) (fun W hW => by
              obtain ⟨q0, q1, q2, q3, q4, q5, q6, q7, q8, q9, q10, q11⟩ := HKM.out W hW
              exact ⟨.agg #[.int .i64 M.y, .int .i64 M.i, .int .i64 M.o, .slice MA.gr.1 M.gr.length MA.gr.2, .slice MA.be.1 M.be.length MA.be.2, .slice MA.af.1 M.af.length MA.af.2, .slice MA.li.1 M.li.length MA.li.2, .slice MA.sc.1 M.sc.length MA.sc.2, .int .i64 M.al, .int .i64 M.ex, .slice MA.ba.1 M.ba.length MA.ba.2, .slice MA.od.1 M.od.length MA.od.2], by go_simp, sps rfl rfl⟩)) (by decide)) ?_
          refine opsK_cons (by
           exact kindn_n (opOk_callg (fun a => #[a.eval (.tmp 29), a.eval (.tmp 33)]) rfl rfl (.inl rfl) (fun a => by simp only [List.map_toArray, List.map_cons, List.map_nil] <;> rfl) (fun args W => by go_simp) (fun a W hW hsp => by
              have e29 : a.eval (.tmp 29) = .agg #[.int .i64 now.y, .int .i64 now.i, .int .i64 now.o, .map n1, .map n2, .int .i64 now.tb, .int .i64 now.tt, .map n3] := (hsp 29 (by kernel_rfl)).get rfl
              have e33 : a.eval (.tmp 33) = .agg #[.int .i64 M.y, .int .i64 M.i, .int .i64 M.o, .slice MA.gr.1 M.gr.length MA.gr.2, .slice MA.be.1 M.be.length MA.be.2, .slice MA.af.1 M.af.length MA.af.2, .slice MA.li.1 M.li.length MA.li.2, .slice MA.sc.1 M.sc.length MA.sc.2, .int .i64 M.al, .int .i64 M.ex, .slice MA.ba.1 M.ba.length MA.ba.2, .slice MA.od.1 M.od.length MA.od.2] := (hsp 33 (by kernel_rfl)).get rfl
              simp only [e29, e33]
              exact (HST.out W hW).mono fun e w' ⟨v, he, hb, hs⟩ => ⟨v, he, hb, sps rfl hs⟩)) (by decide)) ?_
          refine opsK_cons (by
           exact kindn_n (opOk_move rfl rfl (.inl rfl) (by kernel_rfl) (fun _ _ h => sps rfl (h.get rfl))) (by decide)) ?_
          refine opsK_cons (by
           exact kindn_n (opOk_run rfl (.inl rfl) (fun a W hW hsp => by
              obtain ⟨va, vb, hv, k1, k2⟩ := (hsp 28 (by kernel_rfl)).get rfl
              have e28 : a.eval (.tmp 28) = .tuple #[va, vb, .int .i64 e2] := hv
              refine ⟨va, ?_, sps rfl k1⟩
              unfold execOp
              simp only [e28]
              go_simp)) (by decide)) ?_
          refine opsK_cons (by
           exact kindn_n (opOk_run rfl (.inl rfl) (fun a W hW hsp => by
              obtain ⟨va, vb, hv, k1, k2⟩ := (hsp 28 (by kernel_rfl)).get rfl
              have e28 : a.eval (.tmp 28) = .tuple #[va, vb, .int .i64 e2] := hv
              refine ⟨vb, ?_, sps rfl k2⟩
              unfold execOp
              simp only [e28]
              go_simp)) (by decide)) ?_
          refine opsK_cons (by
           exact kindn_n (opOk_run rfl (.inl rfl) (fun a W hW hsp => by
              obtain ⟨va, vb, hv, k1, k2⟩ := (hsp 28 (by kernel_rfl)).get rfl
              have e28 : a.eval (.tmp 28) = .tuple #[va, vb, .int .i64 e2] := hv
              refine ⟨.int .i64 e2, ?_, sps rfl rfl⟩
              unfold execOp
              simp only [e28]
              go_simp)) (by decide)) ?_
          refine opsK_cons (by exact kindn_alloc ⟨10, 12, 9, 35, 32, 8⟩ #[.int .i64 0, .int .i64 0, .int .i64 0, .map none, .map none, .int .i64 0, .int .i64 0, .map none] (by simp) rfl rfl rfl rfl (by decide) (by decide) (fun _ _ => run_newSt rfl)) ?_
          refine opsK_cons (by exact kindn_alloc ⟨11, 13, 10, 36, 37, 3⟩ #[.int .i64 0, .int .i64 0, .slice none 0 0] (by simp) rfl rfl rfl rfl (by decide) (by decide) (fun _ _ => run_newSlp rfl)) ?_
          refine opsK_cons (by exact kindn_store ⟨10, 12, 9, 35, 32, 8⟩ (by simp) rfl rfl rfl (by kernel_rfl) (by kernel_rfl) (by kernel_rfl) (by decide) (fun _ _ _ _ h1 h2 h3 => run_putSt rfl h1 (h2.get rfl) h3)) ?_
          refine opsK_cons (by exact kindn_store ⟨11, 13, 10, 36, 37, 3⟩ (by simp) rfl rfl rfl (by kernel_rfl) (by kernel_rfl) (by kernel_rfl) (by decide) (fun _ _ _ _ h1 h2 h3 => run_putSlp rfl h1 (h2.get rfl) h3)) ?_
          refine opsK_cons (by
           exact kindn_n (opOk_assign rfl rfl (.inl rfl) (by kernel_rfl) (fun _ _ h => sps rfl (h.get rfl))) (by decide)) ?_
          exact opsK_nil
        · intro vs W hb hsp hmk
          obtain ⟨tb9, z9, e1, hl1, hk1, z1⟩ := hmk ⟨10, 12, 9, 35, 32, 8⟩ (by simp)
          obtain ⟨xb, z8, e2', hl2, hk2, z2⟩ := hmk ⟨11, 13, 10, 36, 37, 3⟩ (by simp)
          obtain ⟨p1, p2, p3, q1, hst⟩ := (hsp 35).get rfl
          obtain ⟨A2, cap2, q2, hsl⟩ := (hsp 36).get rfl
          have z4 := (hsp 11).get rfl
          rw [z1] at q1
          rw [z2] at q2
          injection q1 with q1
          injection q2 with q2
          subst q1 q2
          clear z1 z2 hmk hsp
          simp only [putAll]
          go_simp
          go_step
          go_meet
          exact ⟨tb9, xb, p1, p2, p3, A2, cap2, rfl, rfl, z4, Lib.hid ⟨hl1, hl2, hk1.bk, hk2.bk⟩, Lib.hid hsl, Lib.hid hst, Lib.hid hb⟩
      case rest =>
      obtain ⟨tb9, xb, p1, p2, p3, A2, cap2, rfl, rfl, rfl, HKK, HOL, HS9, HBX⟩ := hcut
      rename World => wx
      have HBWX : Hid (Below w.heap.size w wx) := Lib.hid (bTrans HBW.out.1 HBX.out)
      by_cases he : e2 = 0
      case neg =>
        have hR : ([], Ste.none, e2) = (slR, SR, eR) := by have h := HD.out; rw [if_pos he] at h; exact h
        simp only [Prod.mk.injEq] at hR
        obtain ⟨h1, h2, h3⟩ := hR
        have hrs0 : rs = [] := by have h := HRS.out; rw [← h1] at h; simpa using h
        have d1 : (e2 != 0) = true := by simpa using he
        subst h1 h3 hrs0
        have hk4 : Bk tb4 32 #[.int .i64 0, .int .i64 0, .int .i64 0, .map m1, .map m2, .int .i64 0, .int .i64 0, .map m3] wx := by have h := bkBel HKF.out.1 HBX.out; rw [← h2] at h; exact h
        have HTX : Hid (Calls Tryz.prog 16 #[.agg #[.int .i64 0, .int .i64 0, .int .i64 0, .map m1, .map m2, .int .i64 0, .int .i64 0, .map m3]] wx fun e w' => e = .returned (.string { data := #[] }) ∧ Below wx.heap.size wx w') := Lib.hid (by
          have h0 := HKF.out.2.1.below HBX.out
          rw [← h2] at h0
          have h := yr_TextB Ste.none ⟨.map m1, .map m2, .map m3⟩ 1572864 wx h0 (by omega) StB.none (HT.out.below HBWX.out)
          rw [tx_none] at h
          exact h)
        have t0 : wx.cell? ⟨tb4, 0, none⟩ = some (.int .i64 0) := Bk.cell (hk4) 0
        have t1 : wx.cell? ⟨tb4, 1, none⟩ = some (.int .i64 0) := Bk.cell (hk4) 1
        have t2 : wx.cell? ⟨tb4, 2, none⟩ = some (.int .i64 0) := Bk.cell (hk4) 2
        have t3 : wx.cell? ⟨tb4, 3, none⟩ = some (.map m1) := Bk.cell (hk4) 3
        have t4 : wx.cell? ⟨tb4, 4, none⟩ = some (.map m2) := Bk.cell (hk4) 4
        have t5 : wx.cell? ⟨tb4, 5, none⟩ = some (.int .i64 0) := Bk.cell (hk4) 5
        have t6 : wx.cell? ⟨tb4, 6, none⟩ = some (.int .i64 0) := Bk.cell (hk4) 6
        have t7 : wx.cell? ⟨tb4, 7, none⟩ = some (.map m3) := Bk.cell (hk4) 7
        clear he hk4 h2
        go_wp2_with (first
          | (go_at_call 16; refine HTX.out.mono ?_; rintro e w5 ⟨rfl, hb5⟩)
          | (go_at_call 12; refine (HAW.out _ (bTrans HBWX.out hb5)).mono ?_; rintro e w6 ⟨rfl, hb6⟩))
        go_ret
        exact ⟨rfl, bTrans (bTrans HBWX.out hb5) hb6⟩
      case pos =>
      subst he
      have HD2 : Hid (resGo Ste.none S2 (ls.map Prod.fst ++ [(y2, i2, l2)]) ((l.map Prod.fst).drop (n + 1)) = (slR, SR, eR)) := Lib.hid (by have h := HD.out; rw [if_neg (by simp)] at h; exact h)
      have d1 : ((0 : Int) != 0) = false := rfl
      have hkw := bkBel HKW.out HBX.out
      obtain ⟨y, hy⟩ : ∃ y, ((((((((wx.setCell ⟨tb6, 0, none⟩ (.int .i64 S2.y)).setCell ⟨tb6, 1, none⟩ (.int .i64 S2.i)).setCell ⟨tb6, 2, none⟩ (.int .i64 S2.o)).setCell ⟨tb6, 3, none⟩ (.map p1)).setCell ⟨tb6, 4, none⟩ (.map p2)).setCell ⟨tb6, 5, none⟩ (.int .i64 S2.tb)).setCell ⟨tb6, 6, none⟩ (.int .i64 S2.tt)).setCell ⟨tb6, 7, none⟩ (.map p3)) = y := ⟨_, rfl⟩
      have hk : Kep tb6 tb6 wx y := by rw [← hy]; exact kep_set8 wx (.int .i64 S2.y) (.int .i64 S2.i) (.int .i64 S2.o) (.map p1) (.map p2) (.int .i64 S2.tb) (.int .i64 S2.tt) (.map p3)
      have hne := HNE.out
      have hbw2 := HBW.out.2.2
      have hkk := HKK.out
      have HK6 : Hid (Bk tb6 32 (stC S2 ⟨.map p1, .map p2, .map p3⟩) y) := Lib.hid (by rw [← hy]; exact bk_set8 hkw (.int .i64 S2.y) (.int .i64 S2.i) (.int .i64 S2.o) (.map p1) (.map p2) (.int .i64 S2.tb) (.int .i64 S2.tt) (.map p3))
      have HXY : Hid (Bk xb 37 #[.int .i64 y2, .int .i64 i2, .slice A2 l2.length cap2] y) := Lib.hid (hk.bk HKK.out.2.2.2 (by omega) (by omega))
      have HOY : Hid (OwnSl B0 ov ls y) := Lib.hid ((HOW.out.below HBX.out).kepT hkw hk)
      have HLY : Hid (Own encLi 3 64 B0 (.slice A2 l2.length cap2) l2 y) := Lib.hid (HOL.out.kepT hkw (by decide) hk)
      have HSY : Hid (StOk S2 ⟨.map p1, .map p2, .map p3⟩ (384 * (n + 1)) y) := Lib.hid (HS9.out.kep hkw hk)
      have HFY : Hid (Bk tb4 32 #[.int .i64 SR.y, .int .i64 SR.i, .int .i64 SR.o, .map m1, .map m2, .int .i64 SR.tb, .int .i64 SR.tt, .map m3] y ∧ StOk SR ⟨.map m1, .map m2, .map m3⟩ 1572864 y ∧ OwnSl w1.heap.size (.slice A3 rs.length c3) rs y) := Lib.hid ⟨hk.bk (bkBel HKF.out.1 HBX.out) (by omega) (by omega), (HKF.out.2.1.below HBX.out).kep hkw hk, (HKF.out.2.2.1.below HBX.out).kepT hkw hk⟩
      have HBY : Hid (Below w.heap.size w y ∧ Below w1.heap.size w1 y ∧ B0 ≤ y.heap.size) := Lib.hid ⟨HBWX.out.trans (hk.below (by omega) (by omega) HBWX.out.size), (bTrans HBW.out.2.1 HBX.out).trans (hk.below (by omega) (by omega) (bTrans HBW.out.2.1 HBX.out).size), by have := HBX.out.size; have := hk.size; omega⟩
      have HWF := Lib.hid hy
      have q0 : wx.cell? ⟨tb6, 0, none⟩ = some (.int .i64 now.y) := Bk.cell (hkw) 0
      have q1 : wx.cell? ⟨tb6, 1, none⟩ = some (.int .i64 now.i) := Bk.cell (hkw) 1
      have q2 : wx.cell? ⟨tb6, 2, none⟩ = some (.int .i64 now.o) := Bk.cell (hkw) 2
      have q3 : wx.cell? ⟨tb6, 3, none⟩ = some (.map n1) := Bk.cell (hkw) 3
      have q4 : wx.cell? ⟨tb6, 4, none⟩ = some (.map n2) := Bk.cell (hkw) 4
      have q5 : wx.cell? ⟨tb6, 5, none⟩ = some (.int .i64 now.tb) := Bk.cell (hkw) 5
      have q6 : wx.cell? ⟨tb6, 6, none⟩ = some (.int .i64 now.tt) := Bk.cell (hkw) 6
      have q7 : wx.cell? ⟨tb6, 7, none⟩ = some (.map n3) := Bk.cell (hkw) 7
      have f0 : wx.frozen? ⟨tb6, 0, none⟩ = false := Bk.frozen (hkw) 0
      have f1 : wx.frozen? ⟨tb6, 1, none⟩ = false := Bk.frozen (hkw) 1
      have f2 : wx.frozen? ⟨tb6, 2, none⟩ = false := Bk.frozen (hkw) 2
      have f3 : wx.frozen? ⟨tb6, 3, none⟩ = false := Bk.frozen (hkw) 3
      have f4 : wx.frozen? ⟨tb6, 4, none⟩ = false := Bk.frozen (hkw) 4
      have f5 : wx.frozen? ⟨tb6, 5, none⟩ = false := Bk.frozen (hkw) 5
      have f6 : wx.frozen? ⟨tb6, 6, none⟩ = false := Bk.frozen (hkw) 6
      have f7 : wx.frozen? ⟨tb6, 7, none⟩ = false := Bk.frozen (hkw) 7
      have t0 : wx.cell? ⟨tb9, 0, none⟩ = some (.int .i64 S2.y) := Bk.cell (HKK.out.2.2.1) 0
      have t1 : wx.cell? ⟨tb9, 1, none⟩ = some (.int .i64 S2.i) := Bk.cell (HKK.out.2.2.1) 1
      have t2 : wx.cell? ⟨tb9, 2, none⟩ = some (.int .i64 S2.o) := Bk.cell (HKK.out.2.2.1) 2
      have t3 : wx.cell? ⟨tb9, 3, none⟩ = some (.map p1) := Bk.cell (HKK.out.2.2.1) 3
      have t4 : wx.cell? ⟨tb9, 4, none⟩ = some (.map p2) := Bk.cell (HKK.out.2.2.1) 4
      have t5 : wx.cell? ⟨tb9, 5, none⟩ = some (.int .i64 S2.tb) := Bk.cell (HKK.out.2.2.1) 5
      have t6 : wx.cell? ⟨tb9, 6, none⟩ = some (.int .i64 S2.tt) := Bk.cell (HKK.out.2.2.1) 6
      have t7 : wx.cell? ⟨tb9, 7, none⟩ = some (.map p3) := Bk.cell (HKK.out.2.2.1) 7
      have x0 : y.cell? ⟨xb, 0, none⟩ = some (.int .i64 y2) := Bk.cell (HXY.out) 0
      have x1 : y.cell? ⟨xb, 1, none⟩ = some (.int .i64 i2) := Bk.cell (HXY.out) 1
      have x2 : y.cell? ⟨xb, 2, none⟩ = some (.slice A2 l2.length cap2) := Bk.cell (HXY.out) 2
      have no1 : tb9 ≠ tb6 := by omega
      clear hkw hy hk hne hbw2 hkk HD
      go_upto_region 13 with fail
      rw [HWF.out]
      clear HWF q0 q1 q2 q3 q4 q5 q6 q7 f0 f1 f2 f3 f4 f5 f6 f7 t0 t1 t2 t3 t4 t5 t6 t7
      go_wp2_with ((at_builtin; refine wpList_append_row encSl_len encSl_one rfl _ _ 54 rfl B0 37 _ 40 Tryz.underlying54 slInfo rfl (by decide) _ ls ((y2, i2, l2), A2, cap2) rfl (HOY.out.1.alloc _) y.heap.size 1 rfl (newsSl (y2, i2, l2) A2 cap2 y) (by have := HLL.out; omega) (by decide) (Nat.le_trans HBY.out.2.2 (Grows.of_alloc y _).size) ?_))
      intro v9 w9 hown9 hgr9
      have hbl : Below y.heap.size y (y.alloc (.cells #[.int .i64 y2, .int .i64 i2, .slice A2 l2.length cap2] 37)) := bAlloc _ _
      have hne := HNE.out
      have hoy := HOY.out.below hbl
      have HO9 : Hid (OwnSl B0 v9 (ls ++ [((y2, i2, l2), A2, cap2)]) w9) := Lib.hid (hoy.snoc (HLY.out.none_ ⟨hbl.os, hbl.tape, hbl.output, hbl.size, fun i hi _ => hbl.block i hi⟩) hown9 hgr9)
      have HK9 : Hid (Bk tb6 32 (stC S2 ⟨.map p1, .map p2, .map p3⟩) w9) := Lib.hid ((bkBel HK6.out hbl).grownBy hgr9 (hoy.1.far (by omega)))
      have HS9' : Hid (StOk S2 ⟨.map p1, .map p2, .map p3⟩ (384 * (n + 1)) w9 ∧ StB (384 * (n + 1)) S2) := Lib.hid ⟨(HSY.out.below hbl).grown hoy.1 hgr9, HS2.out⟩
      have HF9 : Hid (Bk tb4 32 #[.int .i64 SR.y, .int .i64 SR.i, .int .i64 SR.o, .map m1, .map m2, .int .i64 SR.tb, .int .i64 SR.tt, .map m3] w9 ∧ StOk SR ⟨.map m1, .map m2, .map m3⟩ 1572864 w9 ∧ OwnSl w1.heap.size (.slice A3 rs.length c3) rs w9 ∧ (∀ j, (Value.slice A3 rs.length c3).ownBlock = some j → j < tb4)) := Lib.hid ⟨(bkBel HFY.out.1 hbl).grownBy hgr9 (hoy.1.far (by omega)), (HFY.out.2.1.below hbl).grown hoy.1 hgr9, (HFY.out.2.2.below hbl).keptO hoy.1 (by
        cases ho : (Value.slice A3 rs.length c3).ownBlock with
        | none => exact .inl rfl
        | some j =>
          have h1 := HKF.out.2.2.2 j ho
          exact .inr (hoy.1.far (show j < B0 by omega))) hgr9, HKF.out.2.2.2⟩
      have HB9 : Hid (Below w.heap.size w w9 ∧ Below w1.heap.size w1 w9 ∧ B0 ≤ w9.heap.size) := Lib.hid ⟨(bTrans HBY.out.1 hbl).grown hgr9 (bTrans HBY.out.1 hbl).size (fun j hj => by have := (hoy.1.lt hj).1; omega), (bTrans HBY.out.2.1 hbl).grown hgr9 (bTrans HBY.out.2.1 hbl).size (fun j hj => by have := (hoy.1.lt hj).1; omega), by have := HBY.out.2.2; have := hbl.size; have := hgr9.size; omega⟩
      have HA9 : Hid (resGo Ste.none S2 ((ls ++ [((y2, i2, l2), A2, cap2)]).map Prod.fst) ((l.map Prod.fst).drop (n + 1)) = (slR, SR, eR)) := Lib.hid (by rw [List.map_append]; exact HD2.out)
      have HL9 : Hid ((ls ++ [((y2, i2, l2), A2, cap2)]).length ≤ n + 1) := Lib.hid (by rw [List.length_append]; simp; exact HLL.out)
      clear hown9 hgr9 hbl hne hoy x0 x1 x2
      go_wp2
      go_roundg (l.length - (n + 1))
      case measure => omega
      case rel => exact ⟨_, n + 1, S2, ⟨.map p1, .map p2, .map p3⟩, ls ++ [((y2, i2, l2), A2, cap2)], rfl, by omega, by go_num, HA9, HS9', HK9, HO9, HL9, HF9, HB9⟩
    · obtain rfl : n = l.length := by omega
      have hR : (ls.map Prod.fst, now, 0) = (slR, SR, eR) := by
        have h := HA.out
        rw [show l.length = (l.map Prod.fst).length by simp, List.drop_length] at h
        exact h
      simp only [Prod.mk.injEq] at hR
      obtain ⟨h1, h2, h3⟩ := hR
      have HL1 : Hid (ls.map Prod.fst = rs.map Prod.fst) := Lib.hid (by rw [HRS.out]; exact h1)
      have HNS : Hid (now = SR) := Lib.hid h2
      subst h3
      have hlen : rs.length = ls.length := by have h := congrArg List.length HL1.out; simpa using h.symm
      have dln : ((rs.length : Int) != (ls.length : Int)) = false := by rw [hlen]; simp
      have HLN := Lib.hid hlen
      obtain ⟨A7, c7, rfl, _⟩ := own_Sl encSl_len HOW.out.1
      obtain ⟨TX, hTX⟩ : ∃ t, txM SR = t := ⟨_, rfl⟩
      have HKR : Hid (∀ W, Below wr.heap.size wr W → W.cell? ⟨tb4, 0, none⟩ = some (.int .i64 SR.y) ∧ W.cell? ⟨tb4, 1, none⟩ = some (.int .i64 SR.i) ∧ W.cell? ⟨tb4, 2, none⟩ = some (.int .i64 SR.o) ∧ W.cell? ⟨tb4, 3, none⟩ = some (.map m1) ∧ W.cell? ⟨tb4, 4, none⟩ = some (.map m2) ∧ W.cell? ⟨tb4, 5, none⟩ = some (.int .i64 SR.tb) ∧ W.cell? ⟨tb4, 6, none⟩ = some (.int .i64 SR.tt) ∧ W.cell? ⟨tb4, 7, none⟩ = some (.map m3)) := Lib.hid (fun W hW => by
        have h := bkBel HKF.out.1 hW
        exact ⟨h.cell 0, h.cell 1, h.cell 2, h.cell 3, h.cell 4, h.cell 5, h.cell 6, h.cell 7⟩)
      have HTR : Hid (∀ W, Below wr.heap.size wr W → Calls Tryz.prog 16 #[.agg #[.int .i64 SR.y, .int .i64 SR.i, .int .i64 SR.o, .map m1, .map m2, .int .i64 SR.tb, .int .i64 SR.tt, .map m3]] W fun e w' => e = .returned (.string TX) ∧ Below W.heap.size W w') := Lib.hid (fun W hW => by
        rw [← hTX]
        exact yr_TextB SR ⟨.map m1, .map m2, .map m3⟩ 1572864 W (HKF.out.2.1.below hW) (by omega) HRB.out (HT.out.below (bTrans HBW.out.1 hW)))
      have HTN : Hid (∀ W, Below wr.heap.size wr W → Calls Tryz.prog 16 #[.agg #[.int .i64 now.y, .int .i64 now.i, .int .i64 now.o, .map n1, .map n2, .int .i64 now.tb, .int .i64 now.tt, .map n3]] W fun e w' => e = .returned (.string TX) ∧ Below W.heap.size W w') := Lib.hid (fun W hW => by
        rw [← hTX, ← h2]
        exact yr_TextB now ⟨.map n1, .map n2, .map n3⟩ (384 * l.length) W (HST.out.1.below hW) (by omega) HST.out.2 (HT.out.below (bTrans HBW.out.1 hW)))
      clear h1 h2 hTX hlen HA
      go_upto_region 14 with fail
      go_cut [76] from 61 to 75 (fun v wx => v = .bool false ∧ Hid (Below wr.heap.size wr wx))
      case first =>
        refine wp_region_mk (SPS [(5, Sp.val (.int .i64 0)), (62, Sp.val (.bool false)), (3, Sp.val (.slice A3 rs.length c3)), (7, Sp.val (.slice A7 ls.length c7)), (65, Sp.val (.int .i64 rs.length)), (67, Sp.val (.int .i64 ls.length)), (68, Sp.val (.bool false)), (4, Sp.val (.pointer (some ⟨tb4, 0, none⟩))), (6, Sp.val (.pointer (some ⟨tb6, 0, none⟩))), (71, Sp.val (.agg #[.int .i64 SR.y, .int .i64 SR.i, .int .i64 SR.o, .map m1, .map m2, .int .i64 SR.tb, .int .i64 SR.tt, .map m3])), (72, Sp.val (.string TX)), (73, Sp.val (.agg #[.int .i64 now.y, .int .i64 now.i, .int .i64 now.o, .map n1, .map n2, .int .i64 now.tb, .int .i64 now.tt, .map n3])), (74, Sp.val (.string TX)), (75, Sp.val (.bool false)), (61, Sp.val (.int .i64 0)), (63, Sp.val (.bool false)), (64, Sp.val (.slice A3 rs.length c3)), (66, Sp.val (.slice A7 ls.length c7)), (69, Sp.val (.bool false)), (70, Sp.val (.bool false)), (76, Sp.val (.bool false))]) [] [61, 62, 63, 64, 65, 66, 67, 68, 69, 70, 71, 72, 73, 74, 75, 76] rfl (by rfl) (by kernel_rfl) (SPS.st _) ?_ ?_ ?_ (by decide) (by rfl) ?_ (opsK_all ?_) ?_
        · exact nil_all
        · exact nil_all
        · exact nil_all
        · exact sps_start (cons_all rfl (cons_all rfl (cons_all rfl (cons_all rfl (cons_all rfl (nil_all))))))
        · refine opsK_cons (by
           exact kind_n (opOk_move rfl rfl (.inl rfl) (by kernel_rfl) (fun _ _ h => sps rfl (h.get rfl))) (by decide)) ?_
          refine opsK_cons (by
           exact kind_n (opOk_run rfl (.inl rfl) (fun a W hW hsp => by
              have e61 : a.eval (.tmp 61) = .int .i64 0 := (hsp 61 (by kernel_rfl)).get rfl
              refine ⟨.bool false, ?_, sps rfl rfl⟩
              unfold execOp
              simp only [e61]
              go_simp)) (by decide)) ?_
          refine opsK_cons (by
           exact kind_n (opOk_move rfl rfl (.inl rfl) (by kernel_rfl) (fun _ _ h => sps rfl (h.get rfl))) (by decide)) ?_
          refine opsK_cons (by
           exact kind_n (opOk_move rfl rfl (.inr ⟨2, 63, false, rfl, rfl, (by kernel_rfl), fun _ _ h => h.get rfl⟩) (by kernel_rfl) (fun _ _ h => sps rfl (h.get rfl))) (by decide)) ?_
          refine opsK_cons (by
           exact kind_n (opOk_run rfl (.inr ⟨2, 63, false, rfl, rfl, (by kernel_rfl), fun _ _ h => h.get rfl⟩) (fun a W hW hsp => by
              have e64 : a.eval (.tmp 64) = .slice A3 rs.length c3 := (hsp 64 (by kernel_rfl)).get rfl
              have g64 : a.tmps[64]?.getD undef = .slice A3 rs.length c3 := by have h := e64; simp only [Act.eval, Array.getD_eq_getD_getElem?] at h; exact h
              refine ⟨.int .i64 rs.length, ?_, sps rfl rfl⟩
              unfold execOp
              go_simp)) (by decide)) ?_
          refine opsK_cons (by
           exact kind_n (opOk_move rfl rfl (.inr ⟨2, 63, false, rfl, rfl, (by kernel_rfl), fun _ _ h => h.get rfl⟩) (by kernel_rfl) (fun _ _ h => sps rfl (h.get rfl))) (by decide)) ?_
          refine opsK_cons (by
           exact kind_n (opOk_run rfl (.inr ⟨2, 63, false, rfl, rfl, (by kernel_rfl), fun _ _ h => h.get rfl⟩) (fun a W hW hsp => by
              have e66 : a.eval (.tmp 66) = .slice A7 ls.length c7 := (hsp 66 (by kernel_rfl)).get rfl
              have g66 : a.tmps[66]?.getD undef = .slice A7 ls.length c7 := by have h := e66; simp only [Act.eval, Array.getD_eq_getD_getElem?] at h; exact h
              refine ⟨.int .i64 ls.length, ?_, sps rfl rfl⟩
              unfold execOp
              go_simp)) (by decide)) ?_
          refine opsK_cons (by
           exact kind_n (opOk_run rfl (.inr ⟨2, 63, false, rfl, rfl, (by kernel_rfl), fun _ _ h => h.get rfl⟩) (fun a W hW hsp => by
              have e65 : a.eval (.tmp 65) = .int .i64 rs.length := (hsp 65 (by kernel_rfl)).get rfl
              have e67 : a.eval (.tmp 67) = .int .i64 ls.length := (hsp 67 (by kernel_rfl)).get rfl
              refine ⟨.bool false, ?_, sps rfl rfl⟩
              unfold execOp
              simp only [e65, e67]
              go_simp)) (by decide)) ?_
          refine opsK_cons (by
           exact kind_n (opOk_run rfl (.inl rfl) (fun a W hW hsp => by
              have e63 : a.eval (.tmp 63) = .bool false := (hsp 63 (by kernel_rfl)).get rfl
              have e68 : a.eval (.tmp 68) = .bool false := (hsp 68 (by kernel_rfl)).get rfl
              refine ⟨.bool false, ?_, sps rfl rfl⟩
              unfold execOp
              simp only [e63, e68]
              go_simp)) (by decide)) ?_
          refine opsK_cons (by
           exact kind_n (opOk_move rfl rfl (.inl rfl) (by kernel_rfl) (fun _ _ h => sps rfl (h.get rfl))) (by decide)) ?_
          refine opsK_cons (by
           exact kind_n (opOk_load (p := ⟨tb4, 0, none⟩) rfl rfl (.inr ⟨9, 70, false, rfl, rfl, (by kernel_rfl), fun _ _ h => h.get rfl⟩) (by kernel_rfl) (fun _ _ h => h.get rfl) (fun W hW => by
              obtain ⟨q0, q1, q2, q3, q4, q5, q6, q7⟩ := HKR.out W hW
              exact ⟨.agg #[.int .i64 SR.y, .int .i64 SR.i, .int .i64 SR.o, .map m1, .map m2, .int .i64 SR.tb, .int .i64 SR.tt, .map m3], by go_simp, sps rfl rfl⟩)) (by decide)) ?_
          refine opsK_cons (by
           exact kind_n (opOk_callg (fun a => #[a.eval (.tmp 71)]) rfl rfl (.inr ⟨9, 70, false, rfl, rfl, (by kernel_rfl), fun _ _ h => h.get rfl⟩) (fun a => by simp only [List.map_toArray, List.map_cons, List.map_nil] <;> rfl) (fun args W => by go_simp) (fun a W hW hsp => by
              have e71 : a.eval (.tmp 71) = .agg #[.int .i64 SR.y, .int .i64 SR.i, .int .i64 SR.o, .map m1, .map m2, .int .i64 SR.tb, .int .i64 SR.tt, .map m3] := (hsp 71 (by kernel_rfl)).get rfl
              simp only [e71]
              exact (HTR.out W hW).mono fun e w' ⟨he, hb⟩ => ⟨_, he, hb, sps rfl rfl⟩)) (by decide)) ?_
          refine opsK_cons (by
           exact kind_n (opOk_load (p := ⟨tb6, 0, none⟩) rfl rfl (.inr ⟨9, 70, false, rfl, rfl, (by kernel_rfl), fun _ _ h => h.get rfl⟩) (by kernel_rfl) (fun _ _ h => h.get rfl) (fun W hW => by
              obtain ⟨q0, q1, q2, q3, q4, q5, q6, q7⟩ := HKN.out W hW
              exact ⟨.agg #[.int .i64 now.y, .int .i64 now.i, .int .i64 now.o, .map n1, .map n2, .int .i64 now.tb, .int .i64 now.tt, .map n3], by go_simp, sps rfl rfl⟩)) (by decide)) ?_
          refine opsK_cons (by
           exact kind_n (opOk_callg (fun a => #[a.eval (.tmp 73)]) rfl rfl (.inr ⟨9, 70, false, rfl, rfl, (by kernel_rfl), fun _ _ h => h.get rfl⟩) (fun a => by simp only [List.map_toArray, List.map_cons, List.map_nil] <;> rfl) (fun args W => by go_simp) (fun a W hW hsp => by
              have e73 : a.eval (.tmp 73) = .agg #[.int .i64 now.y, .int .i64 now.i, .int .i64 now.o, .map n1, .map n2, .int .i64 now.tb, .int .i64 now.tt, .map n3] := (hsp 73 (by kernel_rfl)).get rfl
              simp only [e73]
              exact (HTN.out W hW).mono fun e w' ⟨he, hb⟩ => ⟨_, he, hb, sps rfl rfl⟩)) (by decide)) ?_
          refine opsK_cons (by
           exact kind_n (opOk_run rfl (.inr ⟨9, 70, false, rfl, rfl, (by kernel_rfl), fun _ _ h => h.get rfl⟩) (fun a W hW hsp => by
              have e72 : a.eval (.tmp 72) = .string TX := (hsp 72 (by kernel_rfl)).get rfl
              have e74 : a.eval (.tmp 74) = .string TX := (hsp 74 (by kernel_rfl)).get rfl
              refine ⟨.bool false, ?_, sps rfl rfl⟩
              unfold execOp
              simp only [e72, e74]
              go_simp)) (by decide)) ?_
          refine opsK_cons (by
           exact kind_n (opOk_run rfl (.inl rfl) (fun a W hW hsp => by
              have e70 : a.eval (.tmp 70) = .bool false := (hsp 70 (by kernel_rfl)).get rfl
              have e75 : a.eval (.tmp 75) = .bool false := (hsp 75 (by kernel_rfl)).get rfl
              refine ⟨.bool false, ?_, sps rfl rfl⟩
              unfold execOp
              simp only [e70, e75]
              go_simp)) (by decide)) ?_
          exact opsK_nil
        · intro vs W hb hsp _
          have z76 := (hsp 76).get rfl
          simp only [putAll]
          go_simp
          go_step
          go_meet
          exact ⟨z76, Lib.hid hb⟩
      case rest =>
      obtain ⟨rfl, HBX⟩ := hcut
      rename World => wx
      clear dln HKR HTR HTN HKN
      have HLB : Hid (ls.length ≤ 30) := Lib.hid (by have := HLL.out; omega)
      have hlb := HLB.out
      go_wp2_with fail
      go_loopg [12] ls.length (fun kk jv wz => ∃ (j : Nat), j + kk = ls.length ∧ jv = .int .i64 j ∧ Hid (Below wr.heap.size wr wz))
      case atStart => exact ⟨0, Nat.zero_add _, rfl, HBX⟩
      case round =>
        obtain ⟨j, hj, rfl, HBZ⟩ := hrel
        rename World => wz
        by_cases hlt : j < ls.length
        · have hrl : j < rs.length := by have := HLN.out; omega
          obtain ⟨g7, cap7, he7, _, hrw7⟩ := HOW.out.1.row encSl_len (by intro h; simp [h] at hlt)
          obtain ⟨g3, cap3, he3, _, hrw3⟩ := HKF.out.2.2.1.1.row encSl_len (by intro h; simp [h] at hrl)
          have ha7 : A7 = some ⟨g7, 0, none⟩ := by injection he7
          have ha3 : A3 = some ⟨g3, 0, none⟩ := by injection he3
          clear he7 he3
          subst ha7 ha3
          obtain ⟨⟨⟨y5, i5, l5⟩, A6, c6⟩, hx7⟩ : ∃ x, ls[j]? = some x := ⟨_, List.getElem?_eq_getElem hlt⟩
          obtain ⟨⟨⟨y6, i6, l6⟩, A5, c5⟩, hx3⟩ : ∃ x, rs[j]? = some x := ⟨_, List.getElem?_eq_getElem hrl⟩
          have hxe : ((y5, i5, l5) : Slp) = (y6, i6, l6) := by
            have h := congrArg (fun z => z[j]?) HL1.out
            simp only [List.getElem?_map, hx7, hx3, Option.map_some, Option.some.injEq] at h
            exact h
          simp only [Prod.mk.injEq] at hxe
          obtain ⟨rfl, rfl, rfl⟩ := hxe
          have h448 : l5.length ≤ 448 := by
            have h := resGo_len Ste.none (l.map Prod.fst) Ste.none [] (fun _ h => absurd h (by simp)) (y5, i5, l5)
            rw [HR0.out] at h
            exact h (by rw [← HRS.out]; exact List.mem_map.2 ⟨_, List.mem_of_getElem? hx3, rfl⟩)
          have HKX : Hid (∀ W, Below wz.heap.size wz W → (W.cell? ⟨g3, j * 3, none⟩ = some (.int .i64 y5) ∧ W.cell? ⟨g3, j * 3 + 1, none⟩ = some (.int .i64 i5) ∧ W.cell? ⟨g3, j * 3 + 2, none⟩ = some (.slice A5 l5.length c5)) ∧ W.cell? ⟨g7, j * 3, none⟩ = some (.int .i64 y5) ∧ W.cell? ⟨g7, j * 3 + 1, none⟩ = some (.int .i64 i5) ∧ W.cell? ⟨g7, j * 3 + 2, none⟩ = some (.slice A6 l5.length c6)) := Lib.hid (fun W hW => by
            have hbw : Below wr.heap.size wr W := bTrans HBZ.out hW
            have r3 := hrw3.below hbw hrw3.lt
            have r7 := hrw7.below hbw hrw7.lt
            exact ⟨⟨r3.cell hx3 (j := 0) rfl, r3.cell hx3 (j := 1) rfl, r3.cell hx3 (j := 2) rfl⟩, r7.cell hx7 (j := 0) rfl, r7.cell hx7 (j := 1) rfl, r7.cell hx7 (j := 2) rfl⟩)
          have HSA : Hid (∀ W, Below wz.heap.size wz W → Calls Tryz.prog 15 #[.agg #[.int .i64 y5, .int .i64 i5, .slice A5 l5.length c5], .agg #[.int .i64 y5, .int .i64 i5, .slice A6 l5.length c6]] W fun e w' => e = .returned (.bool true) ∧ Below W.heap.size W w') := Lib.hid (fun W hW => by
            have hbw : Below wr.heap.size wr W := bTrans HBZ.out hW
            obtain ⟨Aa, ca, h1, h2⟩ := own_Sl encLi_len (((HKF.out.2.2.1.below hbw).2 _ (List.mem_of_getElem? hx3)))
            obtain ⟨Ab, cb, h3, h4⟩ := own_Sl encLi_len (((HOW.out.below hbw).2 _ (List.mem_of_getElem? hx7)))
            injection h1 with h1
            injection h3 with h3
            rw [← h1] at h2
            rw [← h3] at h4
            exact la_same y5 i5 l5 A5 A6 c5 c6 W (by omega) h2 h4)
          clear hrw7 hrw3 hx7 hx3 h448
          go_upto_region 19 with fail
          go_cut [92] from 83 to 91 (fun v wx => v = .bool false ∧ Hid (Below wz.heap.size wz wx))
          case first =>
            refine wp_region_mk (SPS [(3, Sp.val (.slice (some ⟨g3, 0, none⟩) rs.length c3)), (12, Sp.val (.int .i64 j)), (7, Sp.val (.slice (some ⟨g7, 0, none⟩) ls.length c7)), (85, Sp.val (.pointer (some ⟨g3, j * 3, none⟩))), (86, Sp.val (.agg #[.int .i64 y5, .int .i64 i5, .slice A5 l5.length c5])), (89, Sp.val (.pointer (some ⟨g7, j * 3, none⟩))), (90, Sp.val (.agg #[.int .i64 y5, .int .i64 i5, .slice A6 l5.length c6])), (91, Sp.val (.bool true)), (92, Sp.val (.bool false)), (83, Sp.val (.slice (some ⟨g3, 0, none⟩) rs.length c3)), (84, Sp.val (.int .i64 j)), (87, Sp.val (.slice (some ⟨g7, 0, none⟩) ls.length c7)), (88, Sp.val (.int .i64 j))]) [] [83, 84, 85, 86, 87, 88, 89, 90, 91, 92] rfl (by rfl) (by kernel_rfl) (SPS.st _) ?_ ?_ ?_ (by decide) (by rfl) ?_ (opsK_all ?_) ?_
            · exact nil_all
            · exact nil_all
            · exact nil_all
            · exact sps_start (cons_all rfl (cons_all rfl (cons_all rfl (nil_all))))
            · refine opsK_cons (by
               exact kind_n (opOk_move rfl rfl (.inl rfl) (by kernel_rfl) (fun _ _ h => sps rfl (h.get rfl))) (by decide)) ?_
              refine opsK_cons (by
               exact kind_n (opOk_move rfl rfl (.inl rfl) (by kernel_rfl) (fun _ _ h => sps rfl (h.get rfl))) (by decide)) ?_
              refine opsK_cons (by
               exact kind_n (opOk_run rfl (.inl rfl) (fun a W hW hsp => by
                  have e83 : a.eval (.tmp 83) = .slice (some ⟨g3, 0, none⟩) rs.length c3 := (hsp 83 (by kernel_rfl)).get rfl
                  have e84 : a.eval (.tmp 84) = .int .i64 j := (hsp 84 (by kernel_rfl)).get rfl
                  refine ⟨.pointer (some ⟨g3, j * 3, none⟩), ?_, sps rfl rfl⟩
                  unfold execOp
                  simp only [e83, e84]
                  go_simp)) (by decide)) ?_
              refine opsK_cons (by
               exact kind_n (opOk_load (p := ⟨g3, j * 3, none⟩) rfl rfl (.inl rfl) (by kernel_rfl) (fun _ _ h => h.get rfl) (fun W hW => by
                  obtain ⟨⟨q0, q1, q2⟩, _⟩ := HKX.out W hW
                  exact ⟨.agg #[.int .i64 y5, .int .i64 i5, .slice A5 l5.length c5], by go_simp, sps rfl rfl⟩)) (by decide)) ?_
              refine opsK_cons (by
               exact kind_n (opOk_move rfl rfl (.inl rfl) (by kernel_rfl) (fun _ _ h => sps rfl (h.get rfl))) (by decide)) ?_
              refine opsK_cons (by
               exact kind_n (opOk_move rfl rfl (.inl rfl) (by kernel_rfl) (fun _ _ h => sps rfl (h.get rfl))) (by decide)) ?_
              refine opsK_cons (by
               exact kind_n (opOk_run rfl (.inl rfl) (fun a W hW hsp => by
                  have e87 : a.eval (.tmp 87) = .slice (some ⟨g7, 0, none⟩) ls.length c7 := (hsp 87 (by kernel_rfl)).get rfl
                  have e88 : a.eval (.tmp 88) = .int .i64 j := (hsp 88 (by kernel_rfl)).get rfl
                  refine ⟨.pointer (some ⟨g7, j * 3, none⟩), ?_, sps rfl rfl⟩
                  unfold execOp
                  simp only [e87, e88]
                  go_simp)) (by decide)) ?_
              refine opsK_cons (by
               exact kind_n (opOk_load (p := ⟨g7, j * 3, none⟩) rfl rfl (.inl rfl) (by kernel_rfl) (fun _ _ h => h.get rfl) (fun W hW => by
                  obtain ⟨_, q0, q1, q2⟩ := HKX.out W hW
                  exact ⟨.agg #[.int .i64 y5, .int .i64 i5, .slice A6 l5.length c6], by go_simp, sps rfl rfl⟩)) (by decide)) ?_
              refine opsK_cons (by
               exact kind_n (opOk_callg (fun a => #[a.eval (.tmp 86), a.eval (.tmp 90)]) rfl rfl (.inl rfl) (fun a => by simp only [List.map_toArray, List.map_cons, List.map_nil] <;> rfl) (fun args W => by go_simp) (fun a W hW hsp => by
                  have e86 : a.eval (.tmp 86) = .agg #[.int .i64 y5, .int .i64 i5, .slice A5 l5.length c5] := (hsp 86 (by kernel_rfl)).get rfl
                  have e90 : a.eval (.tmp 90) = .agg #[.int .i64 y5, .int .i64 i5, .slice A6 l5.length c6] := (hsp 90 (by kernel_rfl)).get rfl
                  simp only [e86, e90]
                  exact (HSA.out W hW).mono fun e w' ⟨he, hb⟩ => ⟨_, he, hb, sps rfl rfl⟩)) (by decide)) ?_
              refine opsK_cons (by
               exact kind_n (opOk_run rfl (.inl rfl) (fun a W hW hsp => by
                  have e91 : a.eval (.tmp 91) = .bool true := (hsp 91 (by kernel_rfl)).get rfl
                  refine ⟨.bool false, ?_, sps rfl rfl⟩
                  unfold execOp
                  simp only [e91]
                  go_simp)) (by decide)) ?_
              exact opsK_nil
            · intro vs W hb hsp _
              have z92 := (hsp 92).get rfl
              simp only [putAll]
              go_simp
              go_step
              go_meet
              exact ⟨z92, Lib.hid hb⟩
          case rest =>
          obtain ⟨rfl, HBY⟩ := hcut
          go_wp2
          go_roundg (ls.length - (j + 1))
          case measure => omega
          case rel => exact ⟨j + 1, by omega, by go_num, Lib.hid (bTrans HBZ.out HBY.out)⟩
        · obtain rfl : j = ls.length := by omega
          have HBE : Hid (Below w.heap.size w wz) := Lib.hid (bTrans HBW.out.1 HBZ.out)
          go_wp2_with (go_at_call 12; refine (HAW.out _ HBE.out).mono ?_; rintro e w6 ⟨rfl, hb6⟩)
          go_ret
          exact ⟨rfl, bTrans HBE.out hb6⟩
end Go.Proofs.YtheaacliomfkoaaGreatDoor
