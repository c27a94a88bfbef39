/- Out of: Yi5 Yi6. -/
import Derived.Test.YtgepbkldgnjpfaaGreatDoorZgq
import Derived.Deep.RegionHeld3
/- year: parts 5, 6 and 3 of a step (gen/mkparts.py). -/
namespace Go.Proofs.YtgepbkldgnjpfaaGreatDoor
open Go.RowKit Go.Sort Go.BigFrame Go.Maps Go.WideMaps

theorem MapV.form {κ β : Type} {K : TypeId} {kl : κ → Lit} {enc : β → Value} {m : Ass κ β} {n : Nat} {v : Value} {w : World} (h : MapV K kl enc m n v w) : ∃ o, v = .map o := by
  rcases h with ⟨h, _⟩ | ⟨b, h, _⟩
  · exact ⟨_, h⟩
  · exact ⟨_, h⟩
set_option maxHeartbeats 4000000 in
set_option maxRecDepth 100000 in
theorem yr_p5 (w0 : World) (xb pb lb : Nat) (M : Mon) (A : MoA) (d : Sd) (V : StA) (n k : Nat) (w : World) (hM : MoOk M A w0) (h : SpW w0 pb lb M A d V n k w) (hx : BkX xb pb w) (hk : k ≤ 1000000000) (hsz : Few 64 M.af) :
    Calls Tryz.prog 61 #[.pointer (some ⟨xb, 0, none⟩)] w fun e w' => e = .returned (.int .i64 (pf5 M d).2) ∧ Kep pb lb w w' ∧ SpW w0 pb lb M A (pf5 M d).1 V n (k + 64) w' := by
  obtain ⟨⟨it, lf⟩, hsu⟩ : ∃ q, afterL d.l M.af = q := ⟨_, rfl⟩
  have hfw : Few 64 it := by have := afterL_few M.af d.l 64 hsz; rw [hsu] at this; exact this
  have HPF : Hid (pf5 M d = ({ d with ln := addP 4 d.ln it, l := leftP 4 d.l it }, 0)) := Lib.hid (by unfold pf5; rw [hsu])
  have HSU : Hid (∀ W, Below w.heap.size w W → Calls Tryz.prog 41 #[.int .i64 d.l, .slice A.af.1 M.af.length A.af.2] W fun e w' => ∃ v, e = .returned (.tuple #[v, .int .i64 lf]) ∧ Own encI 2 65 W.heap.size v it w' ∧ Below W.heap.size W w') := Lib.hid fun W hW => by
    have := bf_After M.af d.l A.af.1 A.af.2 W hM.ln.2.2.1 ⟨h.lr.1.2, h.lr.1.1⟩ (hM.af.below (h.below hW).be)
    rw [hsu] at this
    exact this
  rw [HPF.out]
  have HKB := Lib.hid hk
  have HX : Hid (xb ≠ pb ∧ xb ≠ lb ∧ pb ≠ lb) := Lib.hid ⟨fun e => by subst e; exact absurd rfl (Bk.ne_ hx h.bk (by decide)), fun e => by subst e; exact mapNeCells h.om hx rfl, h.nePl⟩
  have HLT : Hid (pb < w.heap.size ∧ lb < w.heap.size) := Lib.hid ⟨Bk.lt h.bk, h.om.lt⟩
  have HH := Lib.hid h
  have HXX := Lib.hid hx
  have n1 : xb ≠ pb := HX.out.1
  have HFW := Lib.hid hfw
  clear hfw
  clear hsu hM h hx hk hsz
  go_enter Tryz.func61, Tryz.ntmps61
  go_upto_region 1 with fail
  go_cut [2] from 4 (fun v wx => Hid (Own encI 2 65 w.heap.size v it wx) ∧ Hid (Below w.heap.size w wx))
  case first =>
    have HKP : Hid (∀ W, Below w.heap.size w W → W.cell? ⟨xb, 0, none⟩ = some (.pointer (some ⟨pb, 0, none⟩)) ∧ W.cell? ⟨pb, 13, none⟩ = some (.slice A.af.1 M.af.length A.af.2) ∧ W.cell? ⟨pb, 23, none⟩ = some (.int .i64 d.l)) := Lib.hid fun W hW => ⟨(bkBel HXX.out hW).cell 0, Bk.cell (HH.out.below hW).bk 13, Bk.cell (HH.out.below hW).bk 23⟩
    obtain ⟨X0, G0, G1⟩ := HKP.out w (Below.refl _ _)
    have HZ : Hid (Below w.heap.size w w.drew) := Lib.hid (bDrew w)
    go_wp2_with fail
    go_region_held3 (fun W => W.cell? ⟨xb, 0, none⟩ = some (.pointer (some ⟨pb, 0, none⟩)) ∧ W.cell? ⟨pb, 13, none⟩ = some (.slice A.af.1 M.af.length A.af.2) ∧ W.cell? ⟨pb, 23, none⟩ = some (.int .i64 d.l)) (first | exact HKP.out _ HZ.out | go_keep) (first | (go_at_call 41; (with_reducible refine (HSU.out _ HZ.out).mono ?_); rintro e wn ⟨v, rfl, how, hbn⟩; have HOW : Hid (Own encI 2 65 w.heap.size v it wn) := Lib.hid how; clear how; replace HZ := Lib.hid (bTrans HZ.out hbn); clear hbn))
    all_goals
      go_wp2
      go_meet
      exact ⟨HOW, HZ⟩
  case rest =>
  obtain ⟨HO1, HB1⟩ := hcut
  have hbw : Below w.heap.size w wc := HB1.out
  obtain ⟨B, cap, rfl, hsl⟩ := Own.val (enc := encI) (k := 2) (fun _ => rfl) HO1.out
  have HSL : Hid (∀ W, Kep pb lb wc W → Sl encI 2 W W.heap.size B it) := Lib.hid fun W hk => hsl W hk.size (fun g hg1 hg2 => hk.block g hg2 (by have := HLT.out; omega) (by have := HLT.out; omega))
  have HBW := Lib.hid hbw
  have X0 : wc.cell? ⟨xb, 0, none⟩ = some (.pointer (some ⟨pb, 0, none⟩)) := (bkBel HXX.out hbw).cell 0
  have HPU := Lib.hid ((HH.out.below hbw).put 4 it B cap (by omega) (HFW.out.mono (by omega)) HSL.out HKB.out)
  clear hbw hsl HO1
  go_wp2_with fail
  refine HPU.out.mono ?_
  rintro e wn ⟨rfl, hk3, hs3⟩
  have HK3 := Lib.hid hk3
  have HS3 := Lib.hid hs3
  clear hk3 hs3 X0
  go_wp2
  go_ret
  exact ⟨rfl, (Kep.of_below HBW.out).trans HK3.out, HS3.out.mono (Nat.le_refl _) (by have := HFW.out.2; omega)⟩
set_option maxHeartbeats 4000000 in
set_option maxRecDepth 100000 in
theorem yr_p6 (w0 : World) (xb pb lb : Nat) (M : Mon) (A : MoA) (d : Sd) (V : StA) (n k : Nat) (w : World) (hM : MoOk M A w0) (h : SpW w0 pb lb M A d V n k w) (hx : BkX xb pb w) (hk : k ≤ 1000000000) (hn : n ≤ 1000000000) :
    Calls Tryz.prog 62 #[.pointer (some ⟨xb, 0, none⟩)] w fun e w' => e = .returned (.int .i64 (pf6 M d).2) ∧ Kep pb lb w w' ∧ ∃ V2, SpW w0 pb lb M A (pf6 M d).1 V2 (n + 64) (k + 64) w' := by
  obtain ⟨⟨it, m2, er⟩, hsu⟩ : ∃ q, attL d.l d.S.od M.od = q := ⟨_, rfl⟩
  have hfw : Few 64 it := by have := attL_few d.l d.S.od M.od; rw [hsu] at this; exact this
  have HPF : Hid (pf6 M d = ({ d with S := { d.S with od := m2 }, ln := addP 5 d.ln it, l := leftP 5 d.l it }, er)) := Lib.hid (by unfold pf6; rw [hsu])
  have HSU : Hid (∀ W, Below w.heap.size w W → Calls Tryz.prog 42 #[.int .i64 d.l, V.od, .slice A.od.1 M.od.length A.od.2] W fun e w' => ∃ v1 v2, e = .returned (.tuple #[v1, v2, .int .i64 er]) ∧ Own encI 2 65 W.heap.size v1 it w' ∧ MpC m2 (n + 64) v2 w' ∧ NewM W.heap.size v2 ∧ Below W.heap.size W w') := Lib.hid fun W hW => by
    have := at_Take d.l d.S.od n V.od M.od A.od.1 A.od.2 W hM.ln.2.2.2.2.2.2 hM.sz.2.2.2.2.2 (h.below hW).mo hn (hM.od.below (h.below hW).be)
    rw [hsu] at this
    exact this
  rw [HPF.out]
  have HKB := Lib.hid hk
  have HX : Hid (xb ≠ pb ∧ xb ≠ lb ∧ pb ≠ lb) := Lib.hid ⟨fun e => by subst e; exact absurd rfl (Bk.ne_ hx h.bk (by decide)), fun e => by subst e; exact mapNeCells h.om hx rfl, h.nePl⟩
  have HLT : Hid (pb < w.heap.size ∧ lb < w.heap.size) := Lib.hid ⟨Bk.lt h.bk, h.om.lt⟩
  have HH := Lib.hid h
  have HXX := Lib.hid hx
  have n1 : xb ≠ pb := HX.out.1
  have HFW := Lib.hid hfw
  clear hfw hn
  clear hsu hM h hx hk
  go_enter Tryz.func62, Tryz.ntmps62
  go_upto_region 1 with fail
  go_cut [2, 3, 4] from 5 (fun v m ev wx => ev = .int .i64 er ∧ Hid (Own encI 2 65 w.heap.size v it wx) ∧ Hid (MpC m2 (n + 64) m wx ∧ NewM w.heap.size m) ∧ Hid (Below w.heap.size w wx))
  case first =>
    have HKP : Hid (∀ W, Below w.heap.size w W → W.cell? ⟨xb, 0, none⟩ = some (.pointer (some ⟨pb, 0, none⟩)) ∧ W.cell? ⟨pb, 23, none⟩ = some (.int .i64 d.l) ∧ W.cell? ⟨pb, 7, none⟩ = some (V.od) ∧ W.cell? ⟨pb, 19, none⟩ = some (.slice A.od.1 M.od.length A.od.2)) := Lib.hid fun W hW => ⟨(bkBel HXX.out hW).cell 0, Bk.cell (HH.out.below hW).bk 23, Bk.cell (HH.out.below hW).bk 7, Bk.cell (HH.out.below hW).bk 19⟩
    obtain ⟨X0, G0, G1, G2⟩ := HKP.out w (Below.refl _ _)
    have HZ : Hid (Below w.heap.size w w.drew) := Lib.hid (bDrew w)
    go_wp2_with fail
    go_region_held3 (fun W => W.cell? ⟨xb, 0, none⟩ = some (.pointer (some ⟨pb, 0, none⟩)) ∧ W.cell? ⟨pb, 23, none⟩ = some (.int .i64 d.l) ∧ W.cell? ⟨pb, 7, none⟩ = some (V.od) ∧ W.cell? ⟨pb, 19, none⟩ = some (.slice A.od.1 M.od.length A.od.2)) (first | exact HKP.out _ HZ.out | go_keep) (first | (go_at_call 42; (with_reducible refine (HSU.out _ HZ.out).mono ?_); rintro e wn ⟨v, m, rfl, how, hmw, hnw, hbn⟩; have HOW : Hid (Own encI 2 65 w.heap.size v it wn) := Lib.hid how; have HMW : Hid (MpC m2 (n + 64) m wn ∧ NewM w.heap.size m) := Lib.hid (And.intro hmw hnw); clear how hmw hnw; replace HZ := Lib.hid (bTrans HZ.out hbn); clear hbn))
    all_goals
      go_wp2
      go_meet
      exact ⟨rfl, HOW, HMW, HZ⟩
  case rest =>
  obtain ⟨rfl, HO1, HM1, HB1⟩ := hcut
  have hbw : Below w.heap.size w wc := HB1.out
  obtain ⟨B, cap, rfl, hsl⟩ := Own.val (enc := encI) (k := 2) (fun _ => rfl) HO1.out
  have HSL : Hid (∀ W, Kep pb lb wc W → Sl encI 2 W W.heap.size B it) := Lib.hid fun W hk => hsl W hk.size (fun g hg1 hg2 => hk.block g hg2 (by have := HLT.out; omega) (by have := HLT.out; omega))
  obtain ⟨uo, rfl⟩ := HM1.out.1.form
  have HBW := Lib.hid hbw
  obtain ⟨wx, hwx⟩ : ∃ y, wc.setCell ⟨pb, 7, none⟩ (.map uo) = y := ⟨_, rfl⟩
  have hnp : Value.map uo ≠ .map (some pb) ∧ Value.map uo ≠ .map (some lb) := ⟨fun e => by have := HM1.out.2 _ e; have := HLT.out; omega, fun e => by have := HM1.out.2 _ e; have := HLT.out; omega⟩
  have hks : Kep pb pb wc wx := by rw [← hwx]; exact Kep.set _ _ _
  have hkk : Kep pb pb w wx := (Kep.of_below hbw).trans hks
  have HKK := Lib.hid hkk
  have HKS := Lib.hid hks
  have hsx : SpW w0 pb lb M A { d with S := { d.S with od := m2 } } { V with od := .map uo } (n + 64) k wx := HH.out.chg hkk rfl (by rw [← hwx]; exact Bk.set_ (HH.out.below hbw).bk 7 (.map uo)) (let q := HH.out.mbK hkk; ⟨q.1.mono (by omega), q.2⟩) (let q := HH.out.msK hkk; ⟨q.1.mono (by omega), q.2⟩) ⟨hks.map HM1.out.1 hnp.1 hnp.1, hnp.2⟩ HH.out.lr
  have X0 : wc.cell? ⟨xb, 0, none⟩ = some (.pointer (some ⟨pb, 0, none⟩)) := (bkBel HXX.out hbw).cell 0
  have X1 : wx.cell? ⟨xb, 0, none⟩ = some (.pointer (some ⟨pb, 0, none⟩)) := (hkk.bk HXX.out n1 n1).cell 0
  have Y0 : wc.frozen? ⟨pb, 7, none⟩ = false := Bk.frozen (HH.out.below hbw).bk 7
  have HPU := Lib.hid (hsx.put 5 it B cap (by omega) (HFW.out.mono (by omega)) (fun W hk => HSL.out W (HKS.out.one.trans hk)) HKB.out)
  have Y1 : wc.cell? ⟨pb, 7, none⟩ = some V.od := Bk.cell (HH.out.below hbw).bk 7
  have HWX := Lib.hid hwx
  clear hbw hsl HO1 hsx hkk hks hnp hwx
  go_upto_region 3 with fail
  rw [HWX.out]
  clear HWX X0 Y0 Y1
  go_wp2_with fail
  refine HPU.out.mono ?_
  rintro e wn ⟨rfl, hk3, hs3⟩
  have HK3 := Lib.hid hk3
  have HS3 := Lib.hid hs3
  clear hk3 hs3 X1
  go_wp2
  go_ret
  exact ⟨rfl, HKK.out.one.trans HK3.out, ⟨_, HS3.out.mono (Nat.le_refl _) (by have := HFW.out.2; omega)⟩⟩
set_option maxHeartbeats 4000000 in
set_option maxRecDepth 100000 in
theorem yr_p3 (w0 : World) (xb pb lb : Nat) (M : Mon) (A : MoA) (d : Sd) (V : StA) (n k : Nat) (w : World) (hM : MoOk M A w0) (h : SpW w0 pb lb M A d V n k w) (hx : BkX xb pb w) (hk : k ≤ 999999000) (hn : n ≤ 1000000000) :
    Calls Tryz.prog 59 #[.pointer (some ⟨xb, 0, none⟩)] w fun e w' => e = .returned (.int .i64 (pf3 M d).2) ∧ Kep pb lb w w' ∧ ∃ V2, SpW w0 pb lb M A (pf3 M d).1 V2 (n + 64) (k + 128) w' := by
  obtain ⟨⟨m2, it, jt, er⟩, hsu⟩ : ∃ q, socL d.S.so d.g M.sc = q := ⟨_, rfl⟩
  have hfw : Few 64 it ∧ Few 64 jt := by have := socL_few d.S.so d.g M.sc; rw [hsu] at this; exact this
  have HPF : Hid (pf3 M d = ({ d with S := { d.S with so := m2 }, ln := addP 6 (addP 2 d.ln it) jt, l := leftP 6 (leftP 2 d.l it) jt }, er)) := Lib.hid (by unfold pf3; rw [hsu])
  have HSU : Hid (∀ W, Below w.heap.size w W → Calls Tryz.prog 38 #[V.so, .int .i64 d.g, .slice A.sc.1 M.sc.length A.sc.2] W fun e w' => ∃ v1 v2 v3, e = .returned (.tuple #[v1, v2, v3, .int .i64 er]) ∧ MpS m2 (n + 64) v1 w' ∧ NewM W.heap.size v1 ∧ Own encI 2 65 W.heap.size v2 it w' ∧ Own encI 2 65 W.heap.size v3 jt w' ∧ Below W.heap.size W w') := Lib.hid fun W hW => by
    have := so_All d.S.so n V.so d.g M.sc A.sc.1 A.sc.2 W hM.ln.2.2.2.2.1 hM.sz.2.2.2.2.1 (h.below hW).ms hn (hM.sc.below (h.below hW).be)
    rw [hsu] at this
    exact this
  rw [HPF.out]
  have HKB := Lib.hid hk
  have HX : Hid (xb ≠ pb ∧ xb ≠ lb ∧ pb ≠ lb) := Lib.hid ⟨fun e => by subst e; exact absurd rfl (Bk.ne_ hx h.bk (by decide)), fun e => by subst e; exact mapNeCells h.om hx rfl, h.nePl⟩
  have HLT : Hid (pb < w.heap.size ∧ lb < w.heap.size) := Lib.hid ⟨Bk.lt h.bk, h.om.lt⟩
  have HH := Lib.hid h
  have HXX := Lib.hid hx
  have n1 : xb ≠ pb := HX.out.1
  have HFW := Lib.hid hfw
  clear hfw hn
  clear hsu hM h hx hk
  go_enter Tryz.func59, Tryz.ntmps59
  go_upto_region 1 with fail
  go_cut [2, 3, 4, 5] from 6 (fun m v v2 ev wx => ev = .int .i64 er ∧ Hid (MpS m2 (n + 64) m wx ∧ NewM w.heap.size m) ∧ Hid (Own encI 2 65 w.heap.size v it wx) ∧ Hid (Own encI 2 65 w.heap.size v2 jt wx) ∧ Hid (Below w.heap.size w wx))
  case first =>
    have HKP : Hid (∀ W, Below w.heap.size w W → W.cell? ⟨xb, 0, none⟩ = some (.pointer (some ⟨pb, 0, none⟩)) ∧ W.cell? ⟨pb, 4, none⟩ = some (V.so) ∧ W.cell? ⟨pb, 21, none⟩ = some (.int .i64 d.g) ∧ W.cell? ⟨pb, 15, none⟩ = some (.slice A.sc.1 M.sc.length A.sc.2)) := Lib.hid fun W hW => ⟨(bkBel HXX.out hW).cell 0, Bk.cell (HH.out.below hW).bk 4, Bk.cell (HH.out.below hW).bk 21, Bk.cell (HH.out.below hW).bk 15⟩
    obtain ⟨X0, G0, G1, G2⟩ := HKP.out w (Below.refl _ _)
    have HZ : Hid (Below w.heap.size w w.drew) := Lib.hid (bDrew w)
    go_wp2_with fail
    go_region_held3 (fun W => W.cell? ⟨xb, 0, none⟩ = some (.pointer (some ⟨pb, 0, none⟩)) ∧ W.cell? ⟨pb, 4, none⟩ = some (V.so) ∧ W.cell? ⟨pb, 21, none⟩ = some (.int .i64 d.g) ∧ W.cell? ⟨pb, 15, none⟩ = some (.slice A.sc.1 M.sc.length A.sc.2)) (first | exact HKP.out _ HZ.out | go_keep) (first | (go_at_call 38; (with_reducible refine (HSU.out _ HZ.out).mono ?_); rintro e wn ⟨m, v, v2, rfl, hmw, hnw, how, how2, hbn⟩; have HOW : Hid (Own encI 2 65 w.heap.size v it wn) := Lib.hid how; have HOW2 : Hid (Own encI 2 65 w.heap.size v2 jt wn) := Lib.hid how2; have HMW : Hid (MpS m2 (n + 64) m wn ∧ NewM w.heap.size m) := Lib.hid (And.intro hmw hnw); clear how how2 hmw hnw; replace HZ := Lib.hid (bTrans HZ.out hbn); clear hbn))
    all_goals
      go_wp2
      go_meet
      exact ⟨rfl, HMW, HOW, HOW2, HZ⟩
  case rest =>
  obtain ⟨rfl, HM1, HO1, HO2, HB1⟩ := hcut
  have hbw : Below w.heap.size w wc := HB1.out
  obtain ⟨B, cap, rfl, hsl⟩ := Own.val (enc := encI) (k := 2) (fun _ => rfl) HO1.out
  have HSL : Hid (∀ W, Kep pb lb wc W → Sl encI 2 W W.heap.size B it) := Lib.hid fun W hk => hsl W hk.size (fun g hg1 hg2 => hk.block g hg2 (by have := HLT.out; omega) (by have := HLT.out; omega))
  obtain ⟨B2, cap2, rfl, hsm⟩ := Own.val (enc := encI) (k := 2) (fun _ => rfl) HO2.out
  have HSM : Hid (∀ W, Kep pb lb wc W → Sl encI 2 W W.heap.size B2 jt) := Lib.hid fun W hk => hsm W hk.size (fun g hg1 hg2 => hk.block g hg2 (by have := HLT.out; omega) (by have := HLT.out; omega))
  obtain ⟨uo, rfl⟩ := HM1.out.1.form
  have HBW := Lib.hid hbw
  obtain ⟨wx, hwx⟩ : ∃ y, wc.setCell ⟨pb, 4, none⟩ (.map uo) = y := ⟨_, rfl⟩
  have hnp : Value.map uo ≠ .map (some pb) ∧ Value.map uo ≠ .map (some lb) := ⟨fun e => by have := HM1.out.2 _ e; have := HLT.out; omega, fun e => by have := HM1.out.2 _ e; have := HLT.out; omega⟩
  have hks : Kep pb pb wc wx := by rw [← hwx]; exact Kep.set _ _ _
  have hkk : Kep pb pb w wx := (Kep.of_below hbw).trans hks
  have HKK := Lib.hid hkk
  have HKS := Lib.hid hks
  have hsx : SpW w0 pb lb M A { d with S := { d.S with so := m2 } } { V with so := .map uo } (n + 64) k wx := HH.out.chg hkk rfl (by rw [← hwx]; exact Bk.set_ (HH.out.below hbw).bk 4 (.map uo)) (let q := HH.out.mbK hkk; ⟨q.1.mono (by omega), q.2⟩) ⟨hks.map HM1.out.1 hnp.1 hnp.1, hnp.2⟩ (let q := HH.out.moK hkk; ⟨q.1.mono (by omega), q.2⟩) HH.out.lr
  have X0 : wc.cell? ⟨xb, 0, none⟩ = some (.pointer (some ⟨pb, 0, none⟩)) := (bkBel HXX.out hbw).cell 0
  have X1 : wx.cell? ⟨xb, 0, none⟩ = some (.pointer (some ⟨pb, 0, none⟩)) := (hkk.bk HXX.out n1 n1).cell 0
  have Y0 : wc.frozen? ⟨pb, 4, none⟩ = false := Bk.frozen (HH.out.below hbw).bk 4
  have HPU := Lib.hid (hsx.put 2 it B cap (by omega) (HFW.out.1.mono (by omega)) (fun W hk => HSL.out W (HKS.out.one.trans hk)) (by have := HKB.out; omega))
  have Y1 : wc.cell? ⟨pb, 4, none⟩ = some V.so := Bk.cell (HH.out.below hbw).bk 4
  have HWX := Lib.hid hwx
  clear hbw hsl hsm HO1 HO2 hsx hkk hks hnp hwx
  go_upto_region 3 with fail
  rw [HWX.out]
  clear HWX X0 Y0 Y1
  go_wp2_with fail
  refine HPU.out.mono ?_
  rintro e wn ⟨rfl, hk3, hs3⟩
  have HP2 := Lib.hid (hs3.put 6 jt B2 cap2 (by omega) (HFW.out.2.mono (by omega)) (fun W hk => HSM.out W ((HKS.out.one.trans hk3).trans hk)) (by have := HKB.out; have := HFW.out.1.2; omega))
  have X2 : wn.cell? ⟨xb, 0, none⟩ = some (.pointer (some ⟨pb, 0, none⟩)) := (hk3.bk (HKK.out.bk HXX.out n1 n1) n1 HX.out.2.1).cell 0
  have HK3 := Lib.hid hk3
  clear hk3 hs3 X1
  go_wp2_with fail
  refine HP2.out.mono ?_
  rintro e wm ⟨rfl, hk4, hs4⟩
  have HK4 := Lib.hid hk4
  have HS4 := Lib.hid hs4
  clear hk4 hs4 X2
  go_wp2
  go_ret
  exact ⟨rfl, (HKK.out.one.trans HK3.out).trans HK4.out, ⟨_, HS4.out.mono (Nat.le_refl _) (by have := HFW.out.1.2; have := HFW.out.2.2; omega)⟩⟩
end Go.Proofs.YtgepbkldgnjpfaaGreatDoor

/- year: parts 4 and 2 of a step (gen/mkparts.py). -/
namespace Go.Proofs.YtgepbkldgnjpfaaGreatDoor
open Go.RowKit Go.Sort Go.BigFrame Go.Maps Go.WideMaps

set_option maxHeartbeats 4000000 in
set_option maxRecDepth 100000 in
theorem yr_p4 (w0 : World) (xb pb lb : Nat) (M : Mon) (A : MoA) (d : Sd) (V : StA) (n k : Nat) (w : World) (hM : MoOk M A w0) (h : SpW w0 pb lb M A d V n k w) (hx : BkX xb pb w) (hk : k ≤ 1000000000) :
    Calls Tryz.prog 60 #[.pointer (some ⟨xb, 0, none⟩)] w fun e w' => e = .returned (.int .i64 (pf4 M d).2) ∧ Kep pb lb w w' ∧ SpW w0 pb lb M A (pf4 M d).1 V n (k + 1) w' := by
  obtain ⟨⟨⟨tb2, tt2⟩, am, er⟩, hsu⟩ : ∃ q, Tx.stepV d.S.tb d.S.tt d.b M.i M.o M.al M.ex M.ba = q := ⟨_, rfl⟩
  have HPF : Hid (pf4 M d = ({ d with S := { d.S with tb := tb2, tt := tt2 }, ln := addP 3 d.ln [(taxS, am)], l := leftP 3 d.l [(taxS, am)] }, er)) := Lib.hid (by unfold pf4; rw [hsu])
  have HSU : Hid (∀ W, Below w.heap.size w W → Calls Tryz.prog 40 #[.agg #[.int .i64 d.S.tb, .int .i64 d.S.tt], .int .i64 d.b, .int .i64 M.i, .int .i64 M.o, .agg #[.int .i64 M.al, .int .i64 M.ex, .slice A.ba.1 M.ba.length A.ba.2]] W fun e w' => e = .returned (.tuple #[.agg #[.int .i64 tb2, .int .i64 tt2], .int .i64 am, .int .i64 er]) ∧ Below W.heap.size W w') := Lib.hid fun W hW => by
    have := Tx.tax_Step d.S.tb d.S.tt d.b M.i M.o M.al M.ex A.ba.1 A.ba.2 M.ba W (by have := hM.ln.2.2.2.2.2.1; omega) (hM.ba.below (h.below hW).be)
    rw [hsu] at this
    exact this
  rw [HPF.out]
  have HKB := Lib.hid hk
  have HX : Hid (xb ≠ pb ∧ xb ≠ lb ∧ pb ≠ lb) := Lib.hid ⟨fun e => by subst e; exact absurd rfl (Bk.ne_ hx h.bk (by decide)), fun e => by subst e; exact mapNeCells h.om hx rfl, h.nePl⟩
  have HLT : Hid (pb < w.heap.size ∧ lb < w.heap.size) := Lib.hid ⟨Bk.lt h.bk, h.om.lt⟩
  have HH := Lib.hid h
  have HXX := Lib.hid hx
  have n1 : xb ≠ pb := HX.out.1
  clear hsu hM h hx hk
  go_enter Tryz.func60, Tryz.ntmps60
  go_upto_region 1 with fail
  go_cut [2, 3, 4] from 5 (fun p v ev wx => (∃ sb, p = .pointer (some ⟨sb, 0, none⟩) ∧ Hid (Bk sb 30 #[.int .i64 tb2, .int .i64 tt2] wx)) ∧ v = .int .i64 am ∧ ev = .int .i64 er ∧ Hid (Below w.heap.size w wx))
  case first =>
    have HKP : Hid (∀ W, Below w.heap.size w W → W.cell? ⟨xb, 0, none⟩ = some (.pointer (some ⟨pb, 0, none⟩)) ∧ W.cell? ⟨pb, 5, none⟩ = some (.int .i64 d.S.tb) ∧ W.cell? ⟨pb, 6, none⟩ = some (.int .i64 d.S.tt) ∧ W.cell? ⟨pb, 22, none⟩ = some (.int .i64 d.b) ∧ W.cell? ⟨pb, 9, none⟩ = some (.int .i64 M.i) ∧ W.cell? ⟨pb, 10, none⟩ = some (.int .i64 M.o) ∧ W.cell? ⟨pb, 16, none⟩ = some (.int .i64 M.al) ∧ W.cell? ⟨pb, 17, none⟩ = some (.int .i64 M.ex) ∧ W.cell? ⟨pb, 18, none⟩ = some (.slice A.ba.1 M.ba.length A.ba.2)) := Lib.hid fun W hW => ⟨(bkBel HXX.out hW).cell 0, Bk.cell (HH.out.below hW).bk 5, Bk.cell (HH.out.below hW).bk 6, Bk.cell (HH.out.below hW).bk 22, Bk.cell (HH.out.below hW).bk 9, Bk.cell (HH.out.below hW).bk 10, Bk.cell (HH.out.below hW).bk 16, Bk.cell (HH.out.below hW).bk 17, Bk.cell (HH.out.below hW).bk 18⟩
    obtain ⟨X0, G0, G1, G2, G3, G4, G5, G6, G7⟩ := HKP.out w (Below.refl _ _)
    have HZ : Hid (Below w.heap.size w w.drew) := Lib.hid (bDrew w)
    go_wp2_with fail
    go_region_held3 (fun W => W.cell? ⟨xb, 0, none⟩ = some (.pointer (some ⟨pb, 0, none⟩)) ∧ W.cell? ⟨pb, 5, none⟩ = some (.int .i64 d.S.tb) ∧ W.cell? ⟨pb, 6, none⟩ = some (.int .i64 d.S.tt) ∧ W.cell? ⟨pb, 22, none⟩ = some (.int .i64 d.b) ∧ W.cell? ⟨pb, 9, none⟩ = some (.int .i64 M.i) ∧ W.cell? ⟨pb, 10, none⟩ = some (.int .i64 M.o) ∧ W.cell? ⟨pb, 16, none⟩ = some (.int .i64 M.al) ∧ W.cell? ⟨pb, 17, none⟩ = some (.int .i64 M.ex) ∧ W.cell? ⟨pb, 18, none⟩ = some (.slice A.ba.1 M.ba.length A.ba.2)) (first | exact HKP.out _ HZ.out | exact HKP.out _ (bTrans HZ.out (bAlloc _ _)) | exact HKP.out _ (bAlloc _ _) | exact HKP.out _ (bTrans (bAlloc _ _) (bDrew _)) | exact HKP.out _ ((HZ.out.setCell (p := ⟨_, 0, none⟩) (Nat.le_refl _) _).setCell (p := ⟨_, 1, none⟩) (Nat.le_refl _) _) | go_keep) (first | (go_at_call 40; (with_reducible refine (HSU.out _ HZ.out).mono ?_); rintro e wn ⟨rfl, hbn⟩; replace HZ := Lib.hid (bTrans HZ.out hbn); clear hbn) | (go_at_call 40; (with_reducible refine (HSU.out _ (bTrans (bAlloc _ _) (bDrew _))).mono ?_); rintro e wn ⟨rfl, hbn⟩; have hbk := bkBel (bkBel (show Bk w.heap.size 30 #[.int .i64 0, .int .i64 0] (w.alloc _) from Bk.new _ _ _) (bDrew _)) hbn; have Z0 : wn.cell? ⟨w.heap.size, 0, none⟩ = some (.int .i64 0) := hbk.cell 0; have Z1 : wn.cell? ⟨w.heap.size, 1, none⟩ = some (.int .i64 0) := hbk.cell 1; have Z2 : wn.frozen? ⟨w.heap.size, 0, none⟩ = false := hbk.frozen 0; have Z3 : wn.frozen? ⟨w.heap.size, 1, none⟩ = false := hbk.frozen 1; have HBK := Lib.hid hbk; replace HZ := Lib.hid (bTrans (bTrans (bAlloc _ _) (bDrew _)) hbn); clear hbn hbk))
    all_goals
      go_wp2
      go_meet
      first
      | exact ⟨⟨_, rfl, Lib.hid (Bk.new _ _ _)⟩, rfl, rfl, Lib.hid (bTrans HZ.out (bAlloc _ _))⟩
      | exact ⟨⟨_, rfl, Lib.hid (Bk.set_ (Bk.set_ HBK.out 0 (.int .i64 tb2)) 1 (.int .i64 tt2))⟩, rfl, rfl, Lib.hid ((HZ.out.setCell (p := ⟨_, 0, none⟩) (Nat.le_refl _) _).setCell (p := ⟨_, 1, none⟩) (Nat.le_refl _) _)⟩
  case rest =>
  obtain ⟨⟨sb, rfl, HSB⟩, rfl, rfl, HB1⟩ := hcut
  have hbw : Below w.heap.size w wc := HB1.out
  obtain ⟨wx, hwx⟩ : ∃ y, (wc.setCell ⟨pb, 5, none⟩ (.int .i64 tb2)).setCell ⟨pb, 6, none⟩ (.int .i64 tt2) = y := ⟨_, rfl⟩
  have hks : Kep pb pb wc wx := by rw [← hwx]; exact (Kep.set _ _ _).trans (Kep.set _ _ _)
  have hkk : Kep pb pb w wx := (Kep.of_below hbw).trans hks
  have hsx : SpW w0 pb lb M A { d with S := { d.S with tb := tb2, tt := tt2 } } V n k wx := HH.out.chg hkk rfl (by rw [← hwx]; exact Bk.set_ (Bk.set_ (HH.out.below hbw).bk 5 (.int .i64 tb2)) 6 (.int .i64 tt2)) (HH.out.mbK hkk) (HH.out.msK hkk) (HH.out.moK hkk) HH.out.lr
  obtain ⟨wy, hwy⟩ : ∃ y, wx.alloc (.cells #[.string ⟨#[116, 97, 120]⟩, .int .i64 am] 65) = y := ⟨_, rfl⟩
  have hby : Below wx.heap.size wx wy := by rw [← hwy]; exact bAlloc _ _
  have hnb : Bk wx.heap.size 65 #[.string taxS, .int .i64 am] wy := by rw [← hwy]; exact Bk.new _ _ _
  have HKK := Lib.hid (hkk.one.trans (Kep.of_below hby) : Kep pb lb w wy)
  have hplt : pb < wx.heap.size ∧ lb < wx.heap.size := ⟨Bk.lt hsx.bk, hsx.om.lt⟩
  have HPU := Lib.hid ((hsx.below hby).put 3 [(taxS, am)] (some ⟨wx.heap.size, 0, none⟩) 1 (by omega) ⟨fun i hi => by rw [List.mem_singleton.1 hi]; show taxS.size ≤ 32; decide, by simp⟩ (fun W hk _ => by
    have hb := hk.bk hnb (by omega) (by omega)
    refine ⟨_, 0, rfl, hb.lt, fun i x hx j u hu => ?_⟩
    cases i with
    | zero =>
      cases hx
      match j, hu with
      | 0, hu => cases hu; exact hb.cell 0
      | 1, hu => cases hu; exact hb.cell 1
    | succ i => simp at hx) HKB.out)
  have X0 : wc.cell? ⟨xb, 0, none⟩ = some (.pointer (some ⟨pb, 0, none⟩)) := (bkBel HXX.out hbw).cell 0
  have X1 : wx.cell? ⟨xb, 0, none⟩ = some (.pointer (some ⟨pb, 0, none⟩)) := (hkk.bk HXX.out n1 n1).cell 0
  have Y0 : wc.frozen? ⟨pb, 5, none⟩ = false := Bk.frozen (HH.out.below hbw).bk 5
  have Y1 : wc.frozen? ⟨pb, 6, none⟩ = false := Bk.frozen (HH.out.below hbw).bk 6
  have Y2 : wc.cell? ⟨pb, 5, none⟩ = some (.int .i64 d.S.tb) := Bk.cell (HH.out.below hbw).bk 5
  have Y3 : wc.cell? ⟨pb, 6, none⟩ = some (.int .i64 d.S.tt) := Bk.cell (HH.out.below hbw).bk 6
  have Y4 : wc.cell? ⟨sb, 0, none⟩ = some (.int .i64 tb2) := HSB.out.cell 0
  have Y5 : wc.cell? ⟨sb, 1, none⟩ = some (.int .i64 tt2) := HSB.out.cell 1
  have HWX := Lib.hid (And.intro hwx hwy)
  clear hbw hsx hkk hks hwx hwy hby hnb hplt
  go_upto_region 3 with fail
  rw [HWX.out.1]
  clear X0 Y0 Y1 Y2 Y3 Y4 Y5
  go_wp2_with fail
  rw [HWX.out.2]
  refine HPU.out.mono ?_
  rintro e wn ⟨rfl, hk3, hs3⟩
  have HK3 := Lib.hid hk3
  have HS3 := Lib.hid hs3
  clear hk3 hs3 X1
  go_wp2
  go_ret
  exact ⟨rfl, HKK.out.trans HK3.out, HS3.out⟩
set_option maxHeartbeats 4000000 in
set_option maxRecDepth 100000 in
theorem yr_p2 (w0 : World) (xb pb lb : Nat) (M : Mon) (A : MoA) (d : Sd) (V : StA) (n k : Nat) (w : World) (hM : MoOk M A w0) (h : SpW w0 pb lb M A d V n k w) (hx : BkX xb pb w) (hk : k ≤ 1000000000) (hn : n ≤ 1000000000) (hT : Tb w) :
    Calls Tryz.prog 58 #[.pointer (some ⟨xb, 0, none⟩)] w fun e w' => e = .returned (.int .i64 (pf2 M d).2) ∧ Kep pb lb w w' ∧ ∃ V2, SpW w0 pb lb M A (pf2 M d).1 V2 (n + 64) (k + 64) w' := by
  obtain ⟨⟨it, m2, er⟩, hsu⟩ : ∃ q, takeL d.g d.S.be M.be M.li = q := ⟨_, rfl⟩
  have hfw : Few 64 it := by have := takeL_few d.g d.S.be M.be M.li; rw [hsu] at this; exact this
  have HPF : Hid (pf2 M d = ({ d with S := { d.S with be := m2 }, ln := addP 1 d.ln it, l := leftP 1 d.l it, b := leftP 1 d.b it }, er)) := Lib.hid (by unfold pf2; rw [hsu])
  have HSU : Hid (∀ W, Below w.heap.size w W → Calls Tryz.prog 37 #[.int .i64 d.g, V.be, .slice A.be.1 M.be.length A.be.2, .slice A.li.1 M.li.length A.li.2] W fun e w' => ∃ v1 v2, e = .returned (.tuple #[v1, v2, .int .i64 er]) ∧ Own encI 2 65 W.heap.size v1 it w' ∧ MpC m2 (n + 64) v2 w' ∧ NewM W.heap.size v2 ∧ Below W.heap.size W w') := Lib.hid fun W hW => by
    have := bf_Take d.g d.S.be n V.be M.be A.be.1 A.be.2 M.li A.li.1 A.li.2 W hM.ln.2.1 hM.ln.2.2.2.1 hM.sz.2.1 hM.sz.2.2.2.1 (hT.below hW) (h.below hW).mb hn (hM.be.below (h.below hW).be) (hM.li.below (h.below hW).be)
    rw [hsu] at this
    exact this
  rw [HPF.out]
  have HKB := Lib.hid hk
  have HX : Hid (xb ≠ pb ∧ xb ≠ lb ∧ pb ≠ lb) := Lib.hid ⟨fun e => by subst e; exact absurd rfl (Bk.ne_ hx h.bk (by decide)), fun e => by subst e; exact mapNeCells h.om hx rfl, h.nePl⟩
  have HLT : Hid (pb < w.heap.size ∧ lb < w.heap.size) := Lib.hid ⟨Bk.lt h.bk, h.om.lt⟩
  have HH := Lib.hid h
  have HXX := Lib.hid hx
  have n1 : xb ≠ pb := HX.out.1
  have HFW := Lib.hid hfw
  clear hfw hn hT
  clear hsu hM h hx hk
  go_enter Tryz.func58, Tryz.ntmps58
  go_upto_region 1 with fail
  go_cut [2, 3, 4] from 7 (fun v m ev wx => ev = .int .i64 er ∧ Hid (Own encI 2 65 w.heap.size v it wx) ∧ Hid (MpC m2 (n + 64) m wx ∧ NewM w.heap.size m) ∧ Hid (Below w.heap.size w wx))
  case first =>
    have HKP : Hid (∀ W, Below w.heap.size w W → W.cell? ⟨xb, 0, none⟩ = some (.pointer (some ⟨pb, 0, none⟩)) ∧ W.cell? ⟨pb, 21, none⟩ = some (.int .i64 d.g) ∧ W.cell? ⟨pb, 3, none⟩ = some (V.be) ∧ W.cell? ⟨pb, 12, none⟩ = some (.slice A.be.1 M.be.length A.be.2) ∧ W.cell? ⟨pb, 14, none⟩ = some (.slice A.li.1 M.li.length A.li.2)) := Lib.hid fun W hW => ⟨(bkBel HXX.out hW).cell 0, Bk.cell (HH.out.below hW).bk 21, Bk.cell (HH.out.below hW).bk 3, Bk.cell (HH.out.below hW).bk 12, Bk.cell (HH.out.below hW).bk 14⟩
    obtain ⟨X0, G0, G1, G2, G3⟩ := HKP.out w (Below.refl _ _)
    have HZ : Hid (Below w.heap.size w w.drew) := Lib.hid (bDrew w)
    go_wp2_with fail
    go_region_held3 (fun W => W.cell? ⟨xb, 0, none⟩ = some (.pointer (some ⟨pb, 0, none⟩)) ∧ W.cell? ⟨pb, 21, none⟩ = some (.int .i64 d.g) ∧ W.cell? ⟨pb, 3, none⟩ = some (V.be) ∧ W.cell? ⟨pb, 12, none⟩ = some (.slice A.be.1 M.be.length A.be.2) ∧ W.cell? ⟨pb, 14, none⟩ = some (.slice A.li.1 M.li.length A.li.2)) (first | exact HKP.out _ HZ.out | exact HKP.out _ (bTrans HZ.out (bAlloc _ _)) | go_keep) (first | (go_at_call 37; (with_reducible refine (HSU.out _ HZ.out).mono ?_); rintro e wn ⟨v, m, rfl, how, hmw, hnw, hbn⟩; have HOW : Hid (Own encI 2 65 w.heap.size v it wn) := Lib.hid how; have HMW : Hid (MpC m2 (n + 64) m wn ∧ NewM w.heap.size m) := Lib.hid (And.intro hmw hnw); clear how hmw hnw; replace HZ := Lib.hid (bTrans HZ.out hbn); clear hbn))
    all_goals
      go_wp2
      go_meet
      exact ⟨rfl, HOW, HMW, HZ⟩
  case rest =>
  obtain ⟨rfl, HO1, HM1, HB1⟩ := hcut
  have hbw : Below w.heap.size w wc := HB1.out
  obtain ⟨B, cap, rfl, hsl⟩ := Own.val (enc := encI) (k := 2) (fun _ => rfl) HO1.out
  have HSL : Hid (∀ W, Kep pb lb wc W → Sl encI 2 W W.heap.size B it) := Lib.hid fun W hk => hsl W hk.size (fun g hg1 hg2 => hk.block g hg2 (by have := HLT.out; omega) (by have := HLT.out; omega))
  obtain ⟨uo, rfl⟩ := HM1.out.1.form
  have HBW := Lib.hid hbw
  obtain ⟨wx, hwx⟩ : ∃ y, wc.setCell ⟨pb, 3, none⟩ (.map uo) = y := ⟨_, rfl⟩
  have hnp : Value.map uo ≠ .map (some pb) ∧ Value.map uo ≠ .map (some lb) := ⟨fun e => by have := HM1.out.2 _ e; have := HLT.out; omega, fun e => by have := HM1.out.2 _ e; have := HLT.out; omega⟩
  have hks : Kep pb pb wc wx := by rw [← hwx]; exact Kep.set _ _ _
  have hkk : Kep pb pb w wx := (Kep.of_below hbw).trans hks
  have HKK := Lib.hid hkk
  have HKS := Lib.hid hks
  have hsx : SpW w0 pb lb M A { d with S := { d.S with be := m2 } } { V with be := .map uo } (n + 64) k wx := HH.out.chg hkk rfl (by rw [← hwx]; exact Bk.set_ (HH.out.below hbw).bk 3 (.map uo)) ⟨hks.map HM1.out.1 hnp.1 hnp.1, hnp.2⟩ (let q := HH.out.msK hkk; ⟨q.1.mono (by omega), q.2⟩) (let q := HH.out.moK hkk; ⟨q.1.mono (by omega), q.2⟩) HH.out.lr
  have X0 : wc.cell? ⟨xb, 0, none⟩ = some (.pointer (some ⟨pb, 0, none⟩)) := (bkBel HXX.out hbw).cell 0
  have X1 : wx.cell? ⟨xb, 0, none⟩ = some (.pointer (some ⟨pb, 0, none⟩)) := (hkk.bk HXX.out n1 n1).cell 0
  have Y0 : wc.frozen? ⟨pb, 3, none⟩ = false := Bk.frozen (HH.out.below hbw).bk 3
  have HPU := Lib.hid (hsx.put 1 it B cap (by omega) (HFW.out.mono (by omega)) (fun W hk => HSL.out W (HKS.out.one.trans hk)) HKB.out)
  have Y1 : wc.cell? ⟨pb, 3, none⟩ = some V.be := Bk.cell (HH.out.below hbw).bk 3
  have HWX := Lib.hid hwx
  clear hbw hsl HO1 hsx hkk hks hnp hwx
  go_upto_region 3 with fail
  rw [HWX.out]
  clear HWX X0 Y0 Y1
  go_wp2_with fail
  refine HPU.out.mono ?_
  rintro e wn ⟨rfl, hk3, hs3⟩
  have HK3 := Lib.hid hk3
  have HS3 := Lib.hid hs3
  have HXN : Hid (BkX xb pb wn) := Lib.hid (hk3.bk (HKK.out.bk HXX.out n1 n1) n1 HX.out.2.1)
  have HSN : Hid (∀ W, Kep pb pb wn W → Sl encI 2 W W.heap.size B it) := Lib.hid fun W hk => HSL.out W ((HKS.out.one.trans HK3.out).trans hk.one)
  obtain ⟨R, hR⟩ : ∃ R, leftP 1 d.b it = R := ⟨_, rfl⟩
  have HR := Lib.hid hR
  have hil : it.length ≤ 64 := HFW.out.2
  clear hk3 hs3 X1 HSL HKS HPU hR
  go_wp2
  go_loopg [41] it.length (fun kk iv wr => ∃ (m : Nat) (b2 : Int), m + kk = it.length ∧ iv = .int .i64 m ∧ Hid (leftP 1 b2 (it.drop m) = R) ∧ Hid (BkS pb (sgO { d with S := { d.S with be := m2 }, ln := addP 1 d.ln it, l := leftP 1 d.l it, b := b2 } { V with be := .map uo } M A lb) wr) ∧ Hid (Kep pb pb wn wr))
  case atStart => exact ⟨0, d.b, Nat.zero_add _, rfl, HR, Lib.hid HS3.out.bk, Lib.hid (Kep.refl _)⟩
  case round =>
    obtain ⟨m, b2, hm1, rfl, HA, HBW2, HKW⟩ := hrel
    by_cases hlt : m < it.length
    · obtain ⟨b, off, rfl, hB, hc⟩ := HSN.out wr HKW.out (by intro h; simp [h] at hlt)
      obtain ⟨⟨co, c⟩, hx⟩ : ∃ x, it[m]? = some x := ⟨_, List.getElem?_eq_getElem hlt⟩
      have C0 : wr.cell? ⟨b, off + m * 2, none⟩ = some (.string co) := by simpa using hc m _ hx 0 _ rfl
      have C1 : wr.cell? ⟨b, off + m * 2 + 1, none⟩ = some (.int .i64 c) := hc m _ hx 1 _ rfl
      have hdrop : it.drop m = (co, c) :: it.drop (m + 1) := by
        rw [List.drop_eq_getElem_cons hlt]
        congr 1
        have := List.getElem?_eq_getElem hlt
        rw [hx] at this
        exact (Option.some.inj this).symm
      obtain ⟨l2, hl2⟩ : ∃ y, IntKind.i64.wrap (b2 - c) = y := ⟨_, rfl⟩
      have hl2b : wrap64 (b2 - c) = l2 := by rw [← IntWalk.i64_left]; exact hl2
      have HLE : Hid (leftP 1 l2 (it.drop (m + 1)) = R) := Lib.hid (by have := HA.out; rw [hdrop] at this; rw [← this, ← hl2]; rfl)
      obtain ⟨fb, hfb⟩ : ∃ y, wr.heap.size = y := ⟨_, rfl⟩
      obtain ⟨wa, hwa⟩ : ∃ y, wr.alloc (.cells #[.string co, .int .i64 c] 65) = y := ⟨_, rfl⟩
      have hf0 : Bk fb 65 #[.string co, .int .i64 c] wa := by rw [← hwa, ← hfb]; exact Bk.new _ _ _
      have hbr : Below wr.heap.size wr wa := by rw [← hwa]; exact bAlloc wr _
      have hba := HBW2.out.below hbr
      have hxa := bkBel (HKW.out.bk HXN.out n1 n1) hbr
      obtain ⟨we, hwe⟩ : ∃ y, wa.drew = y := ⟨_, rfl⟩
      have hbe : Below wa.heap.size wa we := by rw [← hwe]; exact bDrew _
      have hpe := hba.below hbe
      have hfe := bkBel hf0 hbe
      have R0 : we.cell? ⟨pb, 22, none⟩ = some (.int .i64 b2) := Bk.cell hpe 22
      have R1 : we.frozen? ⟨pb, 22, none⟩ = false := Bk.frozen hpe 22
      have R2 : we.cell? ⟨fb, 1, none⟩ = some (.int .i64 c) := hfe.cell 1
      have R3 : wa.cell? ⟨pb, 22, none⟩ = some (.int .i64 b2) := Bk.cell hba 22
      have R4 : wa.cell? ⟨fb, 1, none⟩ = some (.int .i64 c) := hf0.cell 1
      have R5 : wa.cell? ⟨xb, 0, none⟩ = some (.pointer (some ⟨pb, 0, none⟩)) := hxa.cell 0
      have R6 : we.cell? ⟨xb, 0, none⟩ = some (.pointer (some ⟨pb, 0, none⟩)) := (bkBel hxa hbe).cell 0
      obtain ⟨wy, hwy⟩ : ∃ y, we.setCell ⟨pb, 22, none⟩ (.int .i64 l2) = y := ⟨_, rfl⟩
      have HBY : Hid (BkS pb (sgO { d with S := { d.S with be := m2 }, ln := addP 1 d.ln it, l := leftP 1 d.l it, b := l2 } { V with be := .map uo } M A lb) wy) := Lib.hid (by rw [← hwy]; exact Bk.set_ hpe 22 (.int .i64 l2))
      have HKY : Hid (Kep pb pb wn wy) := Lib.hid (by rw [← hwy]; exact ((HKW.out.trans (Kep.of_below hbr)).trans (Kep.of_below hbe)).trans (Kep.set _ _ _))
      have HWF := Lib.hid (And.intro hfb hwa)
      clear hc hx hdrop hf0 hba hxa hpe hfe hbr hbe hfb hwa HA HBW2 HKW
      go_upto_region 7 with fail
      rw [HWF.out.1, HWF.out.2]
      clear HWF C0 C1
      go_wp2_with fail
      go_region
      all_goals
        go_wp2
        go_roundg (it.length - (m + 1))
        case measure => omega
        case rel => exact ⟨m + 1, l2, by omega, by go_num, HLE, HBY, HKY⟩
    · obtain rfl : m = it.length := by omega
      go_wp2
      go_ret
      have h := HA.out
      rw [List.drop_length] at h
      obtain rfl := HR.out
      have hr : -9223372036854775808 ≤ leftP 1 d.b it ∧ leftP 1 d.b it ≤ 9223372036854775807 := leftP_rng HH.out.lr.2
      have hfin : SpW w0 pb lb M A { d with S := { d.S with be := m2 }, ln := addP 1 d.ln it, l := leftP 1 d.l it, b := leftP 1 d.b it } { V with be := .map uo } (n + 64) (k + it.length) wr := HS3.out.chg HKW.out rfl (by rw [← h]; exact HBW2.out) (HS3.out.mbK HKW.out) (HS3.out.msK HKW.out) (HS3.out.moK HKW.out) ⟨HS3.out.lr.1, hr⟩
      exact ⟨rfl, (HKK.out.one.trans HK3.out).trans HKW.out.one, ⟨_, hfin.mono (Nat.le_refl _) (by omega)⟩⟩
end Go.Proofs.YtgepbkldgnjpfaaGreatDoor
