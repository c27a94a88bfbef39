/- The reference's fold: the walk. -/
import Derived.Test.YtkbpdbfldijeeaaDoorRst
import Derived.Deep.Cut
import Derived.Deep.CutRange
namespace Go.Proofs.YtkbpdbfldijeeaaDoor
open Go.RowKit Go.Sort Go.BigFrame

/-- What stands in memory at a month: the account, the result, and all that lay below. -/
structure RM (w wx : World) (ab rb : Nat) (s : Fo) : Prop where
  blk : Bk ab 35 #[.int .i64 s.g, .int .i64 s.t, .int .i64 s.e, .int .i64 0] wx
  res : Bk rb 35 #[.int .i64 0, .int .i64 0, .int .i64 0, .int .i64 0] wx
  bel : Below w.heap.size w wx
theorem RM.setE {w wx : World} {ab rb : Nat} {s : Fo} (h : RM w wx ab rb s) (hn : w.heap.size ≤ ab ∧ rb ≠ ab) (v l fr cr : Int) : RM w (wx.setCell ⟨ab, 2, none⟩ (.int .i64 v)) ab rb ⟨s.g, s.t, v, l, fr, cr⟩ :=
  ⟨h.blk.set_ 2 _, h.res.grownBy (r := some ab) (gSet _ _ _) (by have := hn.2; simp; omega), belowTrans h.bel (grownBelow (r := some ab) (gSet _ _ _) (fun k hk => by have := hn.1; simp only [Option.some.injEq] at hk; omega) (by simpa using h.bel.size))⟩
theorem RM.slots {w wx : World} {ab rb : Nat} {s : Fo} (h : RM w wx ab rb s) (l fr cr : Int) : RM w wx ab rb ⟨s.g, s.t, s.e, l, fr, cr⟩ := ⟨h.blk, h.res, h.bel⟩
theorem evT_no {yr ca : Int} {i : Nat} {s : Fo} (h : ¬ (moM i = 1 ∧ yr < yrM yr i)) : evT yr ca i s = s := if_neg h
theorem evT_yes {yr ca : Int} {i : Nat} {s : Fo} (h : moM i = 1 ∧ yr < yrM yr i) : evT yr ca i s = keepV ca (loseV s) := if_pos h
theorem evS_no {yr ca ex : Int} {i : Nat} {s : Fo} (h : ¬ moM i = ex + 1) : evS yr ca ex i s = evT yr ca i s := if_neg h
theorem evS_yes {yr ca ex : Int} {i : Nat} {s : Fo} (h : moM i = ex + 1) : evS yr ca ex i s = loseV (evT yr ca i s) := if_pos h
theorem inv_evT {n i : Nat} {s : Fo} {yr ca : Int} (h : Inv n s) (h0 : 0 ≤ ca) : Inv n (evT yr ca i s) := by
  unfold evT
  split
  · exact h.lose.keep h0 rfl
  · exact h

set_option linter.unusedSimpArgs false in
set_option maxHeartbeats 16000000 in
set_option maxRecDepth 100000 in
theorem lr_Fold (yr ca ex un : Int) (l : List Mv) (A : Option Addr) (cap : Nat) (w : World) (hn : l.length ≤ 4096) (hc : chkV yr ca ex un l = 0) (hs : Sl encM 3 w w.heap.size A l) :
    Calls Tryd.prog 13 #[.int .i64 yr, .int .i64 ca, .int .i64 ex, .int .i64 un, .slice A l.length cap] w fun e w' => e = .returned (accA (foldV yr ca ex un l)) ∧ Below w.heap.size w w' := by
  have hr := right_of hc
  have hp := hr.plan
  have hud := hr.day
  unfold noPlan at hp
  have y1 : 1900 ≤ yr := by omega
  have y2 : yr ≤ 2199 := by omega
  have c1 : 0 ≤ ca := by omega
  have c2 : ca ≤ 1000000 := by omega
  have x1 : 0 ≤ ex := by omega
  have x2 : ex ≤ 12 := by omega
  have u1 : -25567 ≤ un := by omega
  have u2 : un ≤ 84005 := by omega
  have HEQ := Lib.hid (foldF_eq hc)
  have HFIT := Lib.hid (fun x (hx : x ∈ l) => (hr.each x hx).2)
  have HS := Lib.hid hs
  obtain ⟨T, hT⟩ : ∃ T, foldF yr ca ex un l = T := ⟨_, rfl⟩
  have HT := Lib.hid hT
  clear hs hr hp hud hT hc
  obtain ⟨rb, hrb⟩ : ∃ x, w.heap.size = x := ⟨_, rfl⟩
  obtain ⟨w0, hw0⟩ : ∃ x, (w.alloc (.cells #[.int .i64 0, .int .i64 0, .int .i64 0, .int .i64 0] 35)).alloc (.cells #[.int .i64 0, .int .i64 0, .int .i64 0, .int .i64 0] 35) = x := ⟨_, rfl⟩
  have g0 : Grows w w0 := hw0 ▸ (Grows.of_alloc _ _).alloc _
  have r0 : Bk rb 35 #[.int .i64 0, .int .i64 0, .int .i64 0, .int .i64 0] w0 := hw0 ▸ hrb ▸ (Bk.new w _ _).grows (.of_alloc _ _)
  have a0 : Bk (rb + 1) 35 #[.int .i64 0, .int .i64 0, .int .i64 0, .int .i64 0] w0 := by
    have e : (w.alloc (.cells #[.int .i64 0, .int .i64 0, .int .i64 0, .int .i64 0] 35)).heap.size = rb + 1 := by rw [← hrb]; simp
    rw [← hw0, ← e]
    exact Bk.new _ _ _
  obtain ⟨ab, hab⟩ : ∃ x, rb + 1 = x := ⟨_, rfl⟩
  rw [hab] at a0
  have HW := Lib.hid hw0
  have HRB := Lib.hid hrb
  have HAB := Lib.hid hab
  have HNE : Hid (w.heap.size ≤ ab ∧ rb ≠ ab) := Lib.hid (by omega)
  have HR0 : Hid (∀ W, Grows w0 W → RS w W l yr ca ex un T ab rb 0 0 fo0) := Lib.hid (fun W hW => ⟨by rw [← HT.out, HEQ.out]; rfl, Nat.zero_le _, Nat.zero_le _, inv0, a0.grows hW, r0.grows hW, (g0.trans hW).below⟩)
  clear hw0 hrb hab g0 r0 a0
  go_enter Tryd.func13, Tryd.ntmps13
  go_wp2_with fail
  rw [HW.out]
  refine (r4_Of1 yr w0 y1 y2).mono ?_
  rintro e' w1 ⟨rfl, hg1⟩
  rw [HRB.out, HAB.out]
  have HR1 := Lib.hid (HR0.out w1 hg1)
  clear hg1
  go_wp2
  go_loopw [12, 13, 14, 15, 17, 18, 19, 20] (fun fv cv av dv yv mv ev pv wr => ∃ (i a j : Nat) (s : Fo), av = .int .i64 a ∧ yv = .int .i64 (yr + j) ∧ fv = .int .i64 s.fr ∧ cv = .int .i64 s.cr ∧ dv = .int .i64 (dM yr i) ∧ j ≤ (2200 - yr).toNat ∧ (i = 12 * j ∨ un < dM yr i) ∧ RS w wr l yr ca ex un T ab rb i a s) (fun _ _ _ _ yv _ _ _ _ => (2200 - intOf yv).toNat)
  case atStart =>
    exact ⟨0, 0, 0, fo0, rfl, by simp, rfl, rfl, by unfold dM yrM moM; simp [Cal.cum_1], Nat.zero_le _, .inl rfl, HR1.out⟩
  case round =>
    obtain ⟨i, a, j, s, rfl, rfl, rfl, rfl, rfl, hj, hij, hrs⟩ := hrel
    have HRS := Lib.hid hrs
    have HIJ := Lib.hid hij
    clear hrs hij
    by_cases hgo : yr + j ≤ 2199 ∧ dM yr i ≤ un
    · obtain ⟨go1, go2⟩ := hgo
      have hi : i = 12 * j := HIJ.out.resolve_right (by omega)
      have HI := Lib.hid hi
      obtain ⟨wo, rfl⟩ : ∃ wo : World, wo = wr := ⟨_, rfl⟩
      clear hi
      go_wp2
      go_loopw [12, 13, 14, 15, 18, 19, 20] (fun fv cv av dv mv ev pv wr => ∃ (i a m : Nat) (s : Fo), av = .int .i64 a ∧ mv = .int .i64 m ∧ fv = .int .i64 s.fr ∧ cv = .int .i64 s.cr ∧ dv = .int .i64 (dM yr i) ∧ 1 ≤ m ∧ m ≤ 13 ∧ i + 1 = 12 * j + m ∧ RS w wr l yr ca ex un T ab rb i a s) (fun _ _ _ _ mv _ _ _ => (13 - intOf mv).toNat)
      case atStart =>
        exact ⟨i, a, 1, s, rfl, rfl, rfl, rfl, rfl, by omega, by omega, by have := HI.out; omega, HRS.out⟩
      case round =>
        obtain ⟨i, a, m, s, rfl, rfl, rfl, rfl, rfl, hm1, hm2, him, hrs⟩ := hrel
        by_cases hgm : m ≤ 12 ∧ dM yr i ≤ un
        · obtain ⟨gm1, gm2⟩ := hgm
          have gm3 : (m : Int) ≤ 12 := by omega
          obtain ⟨g, t, e, lf, fr, cr⟩ := s
          obtain ⟨wi, rfl⟩ : ∃ wi : World, wi = wr := ⟨_, rfl⟩
          have hb := hrs.blk
          have hbs := hrs.bel.size
          have A0 : wi.cell? ⟨ab, 0, none⟩ = some (.int .i64 g) := hb.cell 0
          have A1 : wi.cell? ⟨ab, 1, none⟩ = some (.int .i64 t) := hb.cell 1
          have A2 : wi.cell? ⟨ab, 2, none⟩ = some (.int .i64 e) := hb.cell 2
          have A3 : wi.cell? ⟨ab, 3, none⟩ = some (.int .i64 0) := hb.cell 3
          have Z2 : wi.frozen? ⟨ab, 2, none⟩ = false := hb.frozen 2
          have e1 : yrM yr i = yr + j := by unfold yrM; omega
          have e2 : moM i = m := by unfold moM; omega
          have hdb := dM_bd (yr := yr) (i := i) y1 (by omega)
          have hds := dM_succ yr i
          have hdm := Cal.dim_bd (yr + j) m
          rw [e1, e2] at hds
          have hinv := hrs.inv
          have hal := hrs.al
          have hbd := hinv.bd
          have i1 := hinv.e0
          have i2 := hinv.c0
          have i3 := hinv.f0
          have i4 := hinv.t1
          simp only at hbd i1 i2 i3 i4
          have HST := Lib.hid (hrs.step (by omega) (by omega))
          have HE1 := Lib.hid e1
          have HE2 := Lib.hid e2
          have HB := Lib.hid hb
          have HRM : Hid (RM w wi ab rb ⟨g, t, e, lf, fr, cr⟩) := Lib.hid ⟨hrs.blk, hrs.res, hrs.bel⟩
          have HINV0 := Lib.hid hinv
          have HINV := Lib.hid (inv_ev (i := i) (yr := yr) (ex := ex) hinv c1)
          have HDS := Lib.hid hds
          have HIM := Lib.hid him
          clear hrs hb hinv e1 e2 hds him
          have HN := Lib.hid (And.intro HNE.out.1 HNE.out.2)
          go_upto_region 10 with fail
          go_cut [52] from 46 to 52 (fun q wx => q = .bool (decide ((m : Int) = 1 ∧ yr < yr + (j : Int))) ∧ wi = wx)
          case first =>
            by_cases hm : (m : Int) = 1
            · have hm1 : ((m : Int) == 1) = true := by rw [hm]; rfl
              have HM0 := Lib.hid hm
              clear hm
              by_cases hj0 : yr < yr + (j : Int)
              · go_wp2
                go_meet
                exact ⟨by simp [HM0.out, hj0], rfl⟩
              · go_wp2
                go_meet
                exact ⟨by simp [HM0.out, hj0], rfl⟩
            · have hm1 : ((m : Int) == 1) = false := beq_eq_false_iff_ne.2 hm
              go_wp2
              go_meet
              exact ⟨by simp [hm], rfl⟩
          case rest =>
            obtain ⟨rfl, rfl⟩ := hcut
            go_upto_if 52 with fail
            go_cut [12, 13] from 52 to 71 (fun fv cv wx => ∃ s1 : Fo, Hid (evT yr ca i ⟨g, t, e, lf, fr, cr⟩ = s1) ∧ fv = .int .i64 s1.fr ∧ cv = .int .i64 s1.cr ∧ Hid (RM w wx ab rb s1))
            case first =>
              by_cases k : (m : Int) = 1 ∧ yr < yr + (j : Int)
              · have kd : decide ((m : Int) = 1 ∧ yr < yr + (j : Int)) = true := decide_eq_true k
                have HK := Lib.hid (show moM i = 1 ∧ yr < yrM yr i by rw [HE2.out, HE1.out]; exact k)
                rw [kd]
                clear kd k
                by_cases k1 : ca < fr
                · by_cases k2 : 0 < ca
                  · have k3 : ¬ ca = 0 := by omega
                    go_wp2
                    go_meet
                    refine ⟨⟨g, t, e + cr + fr - ca, lf, 0, ca⟩, Lib.hid ?_, by go_num, by go_num, Lib.hid ?_⟩
                    · rw [evT_yes HK.out]; unfold keepV; rw [if_pos (by simp only [loseV]; omega)]; simp only [loseV, Fo.mk.injEq]; (try (refine ⟨by first | trivial | omega, by first | trivial | omega, by first | trivial | omega, by first | trivial | omega, by first | trivial | omega, by first | trivial | omega⟩))
                    · have hz := (HRM.out.setE HN.out (e + cr) lf fr 0).setE HN.out (e + cr + fr - ca) lf 0 ca
                      exact hz
                  · have k3 : ca = 0 := by omega
                    clear k3
                    go_wp2
                    go_meet
                    refine ⟨⟨g, t, e + cr + fr - ca, lf, ca, 0⟩, Lib.hid ?_, by go_num, by go_num, Lib.hid ?_⟩
                    · rw [evT_yes HK.out]; unfold keepV; rw [if_pos (by simp only [loseV]; omega)]; simp only [loseV, Fo.mk.injEq]; (try (refine ⟨by first | trivial | omega, by first | trivial | omega, by first | trivial | omega, by first | trivial | omega, by first | trivial | omega, by first | trivial | omega⟩))
                    · have hz := (HRM.out.setE HN.out (e + cr) lf fr 0).setE HN.out (e + cr + fr - ca) lf ca 0
                      exact hz
                · by_cases k3 : 0 < fr
                  · have k4 : fr ≤ ca := by omega
                    go_wp2
                    go_meet
                    refine ⟨⟨g, t, e + cr, lf, 0, fr⟩, Lib.hid ?_, by go_num, by go_num, Lib.hid ?_⟩
                    · rw [evT_yes HK.out]; unfold keepV; rw [if_pos (by simp only [loseV]; omega)]; simp only [loseV, Fo.mk.injEq]; (try (refine ⟨by first | trivial | omega, by first | trivial | omega, by first | trivial | omega, by first | trivial | omega, by first | trivial | omega, by first | trivial | omega⟩))
                    · have hz := HRM.out.setE HN.out (e + cr) lf 0 fr
                      exact hz
                  · have k4 : fr ≤ ca := by omega
                    go_wp2
                    go_meet
                    refine ⟨⟨g, t, e + cr, lf, fr, 0⟩, Lib.hid ?_, by go_num, by go_num, Lib.hid ?_⟩
                    · rw [evT_yes HK.out]; unfold keepV; rw [if_neg (by simp only [loseV]; omega)]; simp only [loseV, Fo.mk.injEq]; (try (refine ⟨by first | trivial | omega, by first | trivial | omega, by first | trivial | omega, by first | trivial | omega, by first | trivial | omega, by first | trivial | omega⟩))
                    · have hz := HRM.out.setE HN.out (e + cr) lf fr 0
                      exact hz
              · have kd : decide ((m : Int) = 1 ∧ yr < yr + (j : Int)) = false := decide_eq_false k
                have HK := Lib.hid (show ¬ (moM i = 1 ∧ yr < yrM yr i) by rw [HE2.out, HE1.out]; exact k)
                rw [kd]
                clear kd k
                go_wp2
                go_meet
                exact ⟨⟨g, t, e, lf, fr, cr⟩, Lib.hid (evT_no HK.out), rfl, rfl, HRM⟩
            case rest =>
              obtain ⟨s1, HE3, rfl, rfl, HRM1⟩ := hcut
              have HINV1 := Lib.hid (HE3.out ▸ inv_evT (i := i) (yr := yr) (ca := ca) HINV0.out c1)
              obtain ⟨w9, rfl⟩ : ∃ w9 : World, w9 = wc := ⟨_, rfl⟩
              clear A0 A1 A2 A3 Z2 HRM hbd i1 i2 i3 i4 hbs
              obtain ⟨g1, t1, e1, lf1, fr1, cr1⟩ := s1
              have hb := HRM1.out.blk
              have A2 : w9.cell? ⟨ab, 2, none⟩ = some (.int .i64 e1) := hb.cell 2
              have Z2 : w9.frozen? ⟨ab, 2, none⟩ = false := hb.frozen 2
              have hbd := HINV1.out.bd
              have i1 := HINV1.out.e0
              have i2 := HINV1.out.c0
              have i3 := HINV1.out.f0
              have i4 := HINV1.out.t1
              simp only at hbd i1 i2 i3 i4
              clear hb
              go_upto_region 18 with fail
              go_cut [75] from 72 to 75 (fun q wx => q = .bool (decide ((m : Int) = ex + 1)) ∧ w9 = wx)
              case first =>
                go_wp2
                go_meet
                exact ⟨congrArg Value.bool (by by_cases hx : (m : Int) = ex + 1 <;> simp [hx]), rfl⟩
              case rest =>
                obtain ⟨rfl, rfl⟩ := hcut
                go_upto_if 75 with fail
                go_cut [13] from 75 to 80 (fun cv wx => ∃ s2 : Fo, Hid (evS yr ca ex i ⟨g, t, e, lf, fr, cr⟩ = s2) ∧ cv = .int .i64 s2.cr ∧ s2.fr = fr1 ∧ Hid (RM w wx ab rb s2))
                case first =>
                  by_cases hx : (m : Int) = ex + 1
                  · have kd : decide ((m : Int) = ex + 1) = true := decide_eq_true hx
                    have HX0 := Lib.hid (show moM i = ex + 1 by rw [HE2.out]; exact hx)
                    rw [kd]
                    clear kd hx
                    go_wp2
                    go_meet
                    exact ⟨⟨g1, t1, e1 + cr1, lf1, fr1, 0⟩, Lib.hid (by rw [evS_yes HX0.out, HE3.out]; rfl), rfl, rfl, Lib.hid (HRM1.out.setE HN.out (e1 + cr1) lf1 fr1 0)⟩
                  · have kd : decide ((m : Int) = ex + 1) = false := decide_eq_false hx
                    have HX0 := Lib.hid (show ¬ moM i = ex + 1 by rw [HE2.out]; exact hx)
                    rw [kd]
                    clear kd hx
                    go_wp2
                    go_meet
                    exact ⟨⟨g1, t1, e1, lf1, fr1, cr1⟩, Lib.hid (by rw [evS_no HX0.out, HE3.out]), rfl, rfl, HRM1⟩
                case rest =>
                  obtain ⟨s2, HEV, rfl, hf2, HM2⟩ := hcut
                  obtain ⟨w8, rfl⟩ : ∃ w8 : World, w8 = wc := ⟨_, rfl⟩
                  clear A2 Z2 HRM1 hbd i1 i2 i3 i4 HINV1 HE3
                  obtain ⟨g2, t2, e2, lf2, fr2, cr2⟩ := s2
                  simp only at hf2
                  subst hf2
                  have HST2 := Lib.hid (HEV.out ▸ HST.out)
                  have HINV2 := Lib.hid (HEV.out ▸ HINV.out)
                  go_wp2_with fail
                  refine (r4_Month (yr + j) m _ (by omega) (by omega) (by omega) (by omega)).mono ?_
                  rintro e' w2 ⟨rfl, hg2⟩
                  obtain ⟨ww, hww⟩ : ∃ ww, ww = w2 := ⟨_, rfl⟩
                  have b2 : Bk ab 35 #[.int .i64 g2, .int .i64 t2, .int .i64 e2, .int .i64 0] w2 := Bk.grows HM2.out.blk hg2
                  have r2 : Bk rb 35 #[.int .i64 0, .int .i64 0, .int .i64 0, .int .i64 0] w2 := Bk.grows HM2.out.res hg2
                  have l2 : Below w.heap.size w w2 := belowTrans HM2.out.bel (belowMono hg2.below (by simpa using HM2.out.bel.size))
                  have HB2 := Lib.hid b2
                  have HR2 := Lib.hid r2
                  have HL2 := Lib.hid l2
                  clear b2 r2 l2 hg2 hww
                  go_wp2
                  rw [show dM yr i + Cal.dim (yr + j) m = dM yr (i + 1) from HDS.out.symm]
                  go_loopw [12, 13, 14, 20] (fun fv cv av pv wr => ∃ (b : Nat) (s : Fo), av = .int .i64 b ∧ fv = .int .i64 s.fr ∧ cv = .int .i64 s.cr ∧ b ≤ l.length ∧ Hid (takeM un (dM yr (i + 1)) s (l.drop b) = takeM un (dM yr (i + 1)) (⟨g2, t2, e2, lf2, fr2, cr2⟩ : Fo) (l.drop a)) ∧ Hid (Inv b s) ∧ Hid (Bk ab 35 #[.int .i64 s.g, .int .i64 s.t, .int .i64 s.e, .int .i64 0] wr) ∧ Hid (Bk rb 35 #[.int .i64 0, .int .i64 0, .int .i64 0, .int .i64 0] wr) ∧ Hid (Below w.heap.size w wr)) (fun _ _ av _ _ => l.length - (intOf av).toNat)
                  case atStart => exact ⟨a, (⟨g2, t2, e2, lf2, fr2, cr2⟩ : Fo), rfl, rfl, rfl, hal, Lib.hid rfl, HINV2, HB2, HR2, HL2⟩
                  case round =>
                    obtain ⟨b, s, rfl, rfl, rfl, hbl, HTK, HIV, HBB, HRR, HLL⟩ := hrel
                    obtain ⟨g1, t1, e1, lf1, fr1, cr1⟩ := s
                    by_cases hlt : b < l.length
                    · obtain ⟨bb, off, rfl, hB, hc⟩ := HS.out (by intro h; simp [h] at hlt)
                      obtain ⟨⟨d, gr, tk⟩, hx⟩ : ∃ x, l[b]? = some x := ⟨_, List.getElem?_eq_getElem hlt⟩
                      have C0 : wr.cell? ⟨bb, off + b * 3, none⟩ = some (.int .i64 d) := (HLL.out.cell (p := ⟨bb, off + b * 3, none⟩) hB).trans (by simpa using hc b _ hx 0 _ rfl)
                      have C1 : wr.cell? ⟨bb, off + b * 3 + 1, none⟩ = some (.int .i64 gr) := (HLL.out.cell (p := ⟨bb, off + b * 3 + 1, none⟩) hB).trans (hc b _ hx 1 _ rfl)
                      have C2 : wr.cell? ⟨bb, off + b * 3 + 2, none⟩ = some (.int .i64 tk) := (HLL.out.cell (p := ⟨bb, off + b * 3 + 2, none⟩) hB).trans (hc b _ hx 2 _ rfl)
                      have HX := Lib.hid hx
                      have CC0 : Hid (w.cell? ⟨bb, off + b * 3, none⟩ = some (.int .i64 d)) := Lib.hid (by simpa using hc b _ hx 0 _ rfl)
                      have CC1 : Hid (w.cell? ⟨bb, off + b * 3 + 1, none⟩ = some (.int .i64 gr)) := Lib.hid (hc b _ hx 1 _ rfl)
                      have CC2 : Hid (w.cell? ⟨bb, off + b * 3 + 2, none⟩ = some (.int .i64 tk)) := Lib.hid (hc b _ hx 2 _ rfl)
                      have HBN : Hid (bb ≠ ab) := Lib.hid (by have := HNE.out; omega)
                      have hfit := HFIT.out _ (List.mem_of_getElem? hx)
                      unfold unfit at hfit
                      simp only at hfit
                      clear hc hx
                      by_cases hde : d < dM yr (i + 1)
                      · by_cases hdu : d ≤ un
                        · have D0 : wr.cell? ⟨ab, 0, none⟩ = some (.int .i64 g1) := HBB.out.cell 0
                          have D1 : wr.cell? ⟨ab, 1, none⟩ = some (.int .i64 t1) := HBB.out.cell 1
                          have Y0 : wr.frozen? ⟨ab, 0, none⟩ = false := HBB.out.frozen 0
                          have Y1 : wr.frozen? ⟨ab, 1, none⟩ = false := HBB.out.frozen 1
                          have hbn1 : ¬ ab = bb := fun h => HBN.out h.symm
                          have hbn2 : ¬ bb = ab := HBN.out
                          have iv := HIV.out
                          have ibd := iv.bd
                          have j1 := iv.e0
                          have j2 := iv.c0
                          have j3 := iv.f0
                          have j4 := iv.t1
                          have j5 := iv.g1
                          have j6 := iv.g0
                          have j7 := iv.t0
                          simp only at ibd j1 j2 j3 j4 j5 j6 j7
                          have HTK2 := Lib.hid ((take_one HX.out ⟨hde, hdu⟩).symm.trans HTK.out)
                          have HIV2 := Lib.hid (iv.move (gr := gr) (tk := tk) (by omega) (by omega) (by omega) (by omega))
                          clear iv
                          go_wp2_with fail
                          go_region
                          clear C0 C1 C2 D0 D1 Y0 Y1
                          obtain ⟨wq, hwq⟩ : ∃ x, (wr.setCell ⟨ab, 0, none⟩ (.int .i64 (g1 + gr))).drew = x := ⟨_, rfl⟩
                          have HBBwq : Hid (Bk ab 35 #[.int .i64 (g1 + gr), .int .i64 (t1), .int .i64 e1, .int .i64 0] wq) := Lib.hid (hwq ▸ HBB.out.set_ 0 _)
                          have HRRwq : Hid (Bk rb 35 #[.int .i64 0, .int .i64 0, .int .i64 0, .int .i64 0] wq) := Lib.hid (hwq ▸ HRR.out.grownBy (r := some ab) (gDrew (gSet wr 0 _)) (by have := HNE.out; simp; omega))
                          have HLLwq : Hid (Below w.heap.size w wq) := Lib.hid (hwq ▸ (HLL.out.setCell (p := ⟨ab, 0, none⟩) HNE.out.1 _).trans (belowMono (Grows.of_drew _).below (by have := HLL.out.size; simpa using this)))
                          rw [hwq]
                          clear hwq
                          have C0 : wq.cell? ⟨bb, off + b * 3, none⟩ = some (.int .i64 d) := (HLLwq.out.cell (p := ⟨bb, off + b * 3, none⟩) hB).trans CC0.out
                          have C1 : wq.cell? ⟨bb, off + b * 3 + 1, none⟩ = some (.int .i64 gr) := (HLLwq.out.cell (p := ⟨bb, off + b * 3 + 1, none⟩) hB).trans CC1.out
                          have C2 : wq.cell? ⟨bb, off + b * 3 + 2, none⟩ = some (.int .i64 tk) := (HLLwq.out.cell (p := ⟨bb, off + b * 3 + 2, none⟩) hB).trans CC2.out
                          have D1 : wq.cell? ⟨ab, 1, none⟩ = some (.int .i64 (t1)) := HBBwq.out.cell 1
                          have Y1 : wq.frozen? ⟨ab, 1, none⟩ = false := HBBwq.out.frozen 1
                          go_wp2_with fail
                          go_region
                          clear C0 C1 C2 D1 Y1
                          obtain ⟨wv, hwv⟩ : ∃ x, (wq.setCell ⟨ab, 1, none⟩ (.int .i64 (t1 + tk))).drew = x := ⟨_, rfl⟩
                          have HBBwv : Hid (Bk ab 35 #[.int .i64 (g1 + gr), .int .i64 (t1 + tk), .int .i64 e1, .int .i64 0] wv) := Lib.hid (hwv ▸ HBBwq.out.set_ 1 _)
                          have HRRwv : Hid (Bk rb 35 #[.int .i64 0, .int .i64 0, .int .i64 0, .int .i64 0] wv) := Lib.hid (hwv ▸ HRRwq.out.grownBy (r := some ab) (gDrew (gSet wq 1 _)) (by have := HNE.out; simp; omega))
                          have HLLwv : Hid (Below w.heap.size w wv) := Lib.hid (hwv ▸ (HLLwq.out.setCell (p := ⟨ab, 1, none⟩) HNE.out.1 _).trans (belowMono (Grows.of_drew _).below (by have := HLLwq.out.size; simpa using this)))
                          rw [hwv]
                          clear hwv
                          have C0 : wv.cell? ⟨bb, off + b * 3, none⟩ = some (.int .i64 d) := (HLLwv.out.cell (p := ⟨bb, off + b * 3, none⟩) hB).trans CC0.out
                          have C1 : wv.cell? ⟨bb, off + b * 3 + 1, none⟩ = some (.int .i64 gr) := (HLLwv.out.cell (p := ⟨bb, off + b * 3 + 1, none⟩) hB).trans CC1.out
                          have C2 : wv.cell? ⟨bb, off + b * 3 + 2, none⟩ = some (.int .i64 tk) := (HLLwv.out.cell (p := ⟨bb, off + b * 3 + 2, none⟩) hB).trans CC2.out
                          have D1 : wv.cell? ⟨ab, 1, none⟩ = some (.int .i64 (t1 + tk)) := HBBwv.out.cell 1
                          have Y1 : wv.frozen? ⟨ab, 1, none⟩ = false := HBBwv.out.frozen 1
                          go_wp2_with fail
                          go_quiet (fail)
                          clear C0 C1 C2 D1 Y1
                          go_wp2
                          refine ⟨⟨b + 1, moveV gr tk ⟨g1, t1, e1, lf1, fr1, cr1⟩, by go_num, congrArg (Value.int .i64) (by simp only [moveV]; omega), rfl, by omega, HTK2, HIV2, HBBwv, HRRwv, Lib.hid (HLLwv.out.trans (belowMono (Grows.of_drewN wv nq).below HLLwv.out.size))⟩, by simp [intOf]; omega⟩
                        · have hdu2 : ¬ d ≤ un := hdu
                          have HSTOP : Hid (l.length ≤ b ∨ ∃ x, l[b]? = some x ∧ ¬ (x.1 < dM yr (i + 1) ∧ x.1 ≤ un)) := Lib.hid (.inr ⟨_, HX.out, fun h => hdu h.2⟩)
                          have HEND : Hid (RS w wr l yr ca ex un T ab rb (i + 1) b ⟨g1, t1, e1, lf1, fr1, cr1⟩) := Lib.hid ⟨by
                            have h1 := HST2.out
                            rw [← HTK.out, take_end HSTOP.out] at h1
                            exact h1, by have := HIM.out; omega, hbl, HIV.out, HBB.out, HRR.out, HLL.out⟩
                          go_wp2
                          refine ⟨⟨i + 1, b, m + 1, _, rfl, by go_num, rfl, rfl, rfl, by omega, by omega, by have := HIM.out; omega, HEND.out⟩, by simp [intOf]; omega⟩
                      · have hde2 : ¬ d < dM yr (i + 1) := hde
                        have HSTOP : Hid (l.length ≤ b ∨ ∃ x, l[b]? = some x ∧ ¬ (x.1 < dM yr (i + 1) ∧ x.1 ≤ un)) := Lib.hid (.inr ⟨_, HX.out, fun h => hde h.1⟩)
                        have HEND : Hid (RS w wr l yr ca ex un T ab rb (i + 1) b ⟨g1, t1, e1, lf1, fr1, cr1⟩) := Lib.hid ⟨by
                          have h1 := HST2.out
                          rw [← HTK.out, take_end HSTOP.out] at h1
                          exact h1, by have := HIM.out; omega, hbl, HIV.out, HBB.out, HRR.out, HLL.out⟩
                        go_wp2
                        refine ⟨⟨i + 1, b, m + 1, _, rfl, by go_num, rfl, rfl, rfl, by omega, by omega, by have := HIM.out; omega, HEND.out⟩, by simp [intOf]; omega⟩
                    · obtain rfl : b = l.length := by omega
                      have HSTOP : Hid (l.length ≤ l.length ∨ ∃ x, l[l.length]? = some x ∧ ¬ (x.1 < dM yr (i + 1) ∧ x.1 ≤ un)) := Lib.hid (.inl (Nat.le_refl _))
                      have HEND : Hid (RS w wr l yr ca ex un T ab rb (i + 1) l.length ⟨g1, t1, e1, lf1, fr1, cr1⟩) := Lib.hid ⟨by
                        have h1 := HST2.out
                        rw [← HTK.out, take_end HSTOP.out] at h1
                        exact h1, by have := HIM.out; omega, hbl, HIV.out, HBB.out, HRR.out, HLL.out⟩
                      go_wp2
                      refine ⟨⟨i + 1, l.length, m + 1, _, rfl, by go_num, rfl, rfl, rfl, by omega, by omega, by have := HIM.out; omega, HEND.out⟩, by simp [intOf]; omega⟩
        · have hout : Hid (i = 12 * (j + 1) ∨ un < dM yr i) := Lib.hid (by omega)
          have HRS3 := Lib.hid hrs
          clear hrs
          by_cases gm1 : m ≤ 12
          · have gm2 : ¬ dM yr i ≤ un := fun h => hgm ⟨gm1, h⟩
            have gm3 : (m : Int) ≤ 12 := by omega
            clear hgm
            go_wp2
            refine ⟨⟨i, a, j + 1, s, rfl, by go_num, rfl, rfl, rfl, by omega, hout.out, HRS3.out⟩, by simp [intOf]; omega⟩
          · have gm3 : ¬ (m : Int) ≤ 12 := by omega
            clear hgm
            go_wp2
            refine ⟨⟨i, a, j + 1, s, rfl, by go_num, rfl, rfl, rfl, by omega, hout.out, HRS3.out⟩, by simp [intOf]; omega⟩
    · have hdone := HRS.out.done (by have := HIJ.out; have := HRS.out.le; omega)
      obtain ⟨g, t, e, lf, fr, cr⟩ := s
      have hbd := HRS.out.inv.bd
      have hal := HRS.out.al
      simp only at hbd
      have hb : Bk ab 35 #[.int .i64 g, .int .i64 t, .int .i64 e, .int .i64 0] wr := HRS.out.blk
      have hres := HRS.out.res
      have A0 : wr.cell? ⟨ab, 0, none⟩ = some (.int .i64 g) := hb.cell 0
      have A1 : wr.cell? ⟨ab, 1, none⟩ = some (.int .i64 t) := hb.cell 1
      have A2 : wr.cell? ⟨ab, 2, none⟩ = some (.int .i64 e) := hb.cell 2
      have A3 : wr.cell? ⟨ab, 3, none⟩ = some (.int .i64 0) := hb.cell 3
      have F3 : wr.frozen? ⟨ab, 3, none⟩ = false := hb.frozen 3
      have R0 : wr.cell? ⟨rb, 0, none⟩ = some (.int .i64 0) := hres.cell 0
      have R1 : wr.cell? ⟨rb, 1, none⟩ = some (.int .i64 0) := hres.cell 1
      have R2 : wr.cell? ⟨rb, 2, none⟩ = some (.int .i64 0) := hres.cell 2
      have R3 : wr.cell? ⟨rb, 3, none⟩ = some (.int .i64 0) := hres.cell 3
      have G0 : wr.frozen? ⟨rb, 0, none⟩ = false := hres.frozen 0
      have G1 : wr.frozen? ⟨rb, 1, none⟩ = false := hres.frozen 1
      have G2 : wr.frozen? ⟨rb, 2, none⟩ = false := hres.frozen 2
      have G3 : wr.frozen? ⟨rb, 3, none⟩ = false := hres.frozen 3
      have n1 : ¬ rb = ab := HNE.out.2
      have n2 : ¬ ab = rb := fun h => n1 h.symm
      have HRES := Lib.hid hres
      have HDONE := Lib.hid hdone
      clear hb hres hdone
      by_cases gg : yr + (j : Int) ≤ 2199
      · have gg2 : ¬ dM yr i ≤ un := fun h => hgo ⟨gg, h⟩
        clear hgo
        go_wp2
        have hz := ((((HRES.out.grownBy (r := some ab) (gSet wr 3 (.int .i64 (fr + cr))) (by simpa using n1)).set_ 0 (.int .i64 g)).set_ 1 (.int .i64 t)).set_ 2 (.int .i64 e)).set_ 3 (.int .i64 (fr + cr))
        have gz := ((((HRS.out.bel.setCell (p := ⟨ab, 3, none⟩) HNE.out.1 (.int .i64 (fr + cr))).setCell (p := ⟨rb, 0, none⟩) (Nat.le_of_eq HRB.out) (.int .i64 g)).setCell (p := ⟨rb, 1, none⟩) (Nat.le_of_eq HRB.out) (.int .i64 t)).setCell (p := ⟨rb, 2, none⟩) (Nat.le_of_eq HRB.out) (.int .i64 e)).setCell (p := ⟨rb, 3, none⟩) (Nat.le_of_eq HRB.out) (.int .i64 (fr + cr))
        clear A0 A1 A2 A3 F3 R0 R1 R2 R3 G0 G1 G2 G3
        generalize ((((wr.setCell ⟨ab, 3, none⟩ (.int .i64 (fr + cr))).setCell ⟨rb, 0, none⟩ (.int .i64 g)).setCell ⟨rb, 1, none⟩ (.int .i64 t)).setCell ⟨rb, 2, none⟩ (.int .i64 e)).setCell ⟨rb, 3, none⟩ (.int .i64 (fr + cr)) = wz at *
        have z0 : wz.cell? ⟨rb, 0, none⟩ = some (.int .i64 g) := hz.cell 0
        have z1 : wz.cell? ⟨rb, 1, none⟩ = some (.int .i64 t) := hz.cell 1
        have z2 : wz.cell? ⟨rb, 2, none⟩ = some (.int .i64 e) := hz.cell 2
        have z3 : wz.cell? ⟨rb, 3, none⟩ = some (.int .i64 (fr + cr)) := hz.cell 3
        have hfv : accA (foldV yr ca ex un l) = .agg #[.int .i64 g, .int .i64 t, .int .i64 e, .int .i64 (fr + cr)] := by
          unfold foldV
          rw [HT.out, ← HDONE.out]
          rfl
        rw [hfv]
        exact bodyPost_ret (v := .agg #[.int .i64 g, .int .i64 t, .int .i64 e, .int .i64 (fr + cr)]) (by simp [results, Tryd.results13, go_sem, z0, z1, z2, z3]) rfl ⟨rfl, gz⟩
      · clear hgo
        go_wp2
        have hz := ((((HRES.out.grownBy (r := some ab) (gSet wr 3 (.int .i64 (fr + cr))) (by simpa using n1)).set_ 0 (.int .i64 g)).set_ 1 (.int .i64 t)).set_ 2 (.int .i64 e)).set_ 3 (.int .i64 (fr + cr))
        have gz := ((((HRS.out.bel.setCell (p := ⟨ab, 3, none⟩) HNE.out.1 (.int .i64 (fr + cr))).setCell (p := ⟨rb, 0, none⟩) (Nat.le_of_eq HRB.out) (.int .i64 g)).setCell (p := ⟨rb, 1, none⟩) (Nat.le_of_eq HRB.out) (.int .i64 t)).setCell (p := ⟨rb, 2, none⟩) (Nat.le_of_eq HRB.out) (.int .i64 e)).setCell (p := ⟨rb, 3, none⟩) (Nat.le_of_eq HRB.out) (.int .i64 (fr + cr))
        clear A0 A1 A2 A3 F3 R0 R1 R2 R3 G0 G1 G2 G3
        generalize ((((wr.setCell ⟨ab, 3, none⟩ (.int .i64 (fr + cr))).setCell ⟨rb, 0, none⟩ (.int .i64 g)).setCell ⟨rb, 1, none⟩ (.int .i64 t)).setCell ⟨rb, 2, none⟩ (.int .i64 e)).setCell ⟨rb, 3, none⟩ (.int .i64 (fr + cr)) = wz at *
        have z0 : wz.cell? ⟨rb, 0, none⟩ = some (.int .i64 g) := hz.cell 0
        have z1 : wz.cell? ⟨rb, 1, none⟩ = some (.int .i64 t) := hz.cell 1
        have z2 : wz.cell? ⟨rb, 2, none⟩ = some (.int .i64 e) := hz.cell 2
        have z3 : wz.cell? ⟨rb, 3, none⟩ = some (.int .i64 (fr + cr)) := hz.cell 3
        have hfv : accA (foldV yr ca ex un l) = .agg #[.int .i64 g, .int .i64 t, .int .i64 e, .int .i64 (fr + cr)] := by
          unfold foldV
          rw [HT.out, ← HDONE.out]
          rfl
        rw [hfv]
        exact bodyPost_ret (v := .agg #[.int .i64 g, .int .i64 t, .int .i64 e, .int .i64 (fr + cr)]) (by simp [results, Tryd.results13, go_sem, z0, z1, z2, z3]) rfl ⟨rfl, gz⟩
end Go.Proofs.YtkbpdbfldijeeaaDoor
