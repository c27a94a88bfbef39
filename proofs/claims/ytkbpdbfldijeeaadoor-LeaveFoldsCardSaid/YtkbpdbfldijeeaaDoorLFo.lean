/- The walk of LeaveFolds. -/
import Derived.Test.YtkbpdbfldijeeaaDoorRst
import Derived.Test.YtkbpdbfldijeeaaDoorMvs
import Derived.Deep.RegionHeld3
import Derived.Deep.DeepCutAuto
import Derived.Deep.DrawnRows
import Derived.WalkSpells
namespace Go.Proofs.YtkbpdbfldijeeaaDoor
open Go.RowKit Go.Sort Go.BigFrame

/-- The reference's fold's contract. -/
def RFold : Prop := ∀ (yr ca ex un : Int) (l : List Mv) (A : Option Addr) (cap : Nat) (w : World), l.length ≤ 4096 → chkV yr ca ex un l = 0 → Sl encM 3 w w.heap.size A l →
    Calls Tryd.prog 13 #[.int .i64 yr, .int .i64 ca, .int .i64 ex, .int .i64 un, .slice A l.length cap] w fun e w' => e = .returned (accA (foldV yr ca ex un l)) ∧ Below w.heap.size w w'

set_option maxHeartbeats 4000000 in
set_option maxRecDepth 100000 in
theorem lw_Folds (hrf : RFold) (yr ca ex un : Int) (l : List Mv) (A : Option Addr) (cap : Nat) (w : World) (hi : Ints un l) (ht : Tabs w) (hs : Sl encM 3 w w.heap.size A l) :
    Calls Tryd.prog 3 #[.agg #[.int .i64 yr, .int .i64 ca, .int .i64 ex], .int .i64 un, .slice A l.length cap] w fun e' w' => e' = .returned (.bool true) ∧ Below w.heap.size w w' := by
  have AW := Lib.hid (fun W (hT : Tabs W) => lv_awake W hT)
  obtain ⟨pb, hpb⟩ : ∃ x, w.heap.size = x := ⟨_, rfl⟩
  obtain ⟨w0, hw0⟩ : ∃ x, w.alloc (.cells #[.int .i64 yr, .int .i64 ca, .int .i64 ex] 23) = x := ⟨_, rfl⟩
  have g0 : Grows w w0 := hw0 ▸ .of_alloc _ _
  have s0 : pb < w0.heap.size := hw0 ▸ hpb ▸ size_new _ _
  have p0 : Bk pb 23 #[.int .i64 yr, .int .i64 ca, .int .i64 ex] w0 := hw0 ▸ hpb ▸ Bk.new w _ _
  have t0 := ht.grows g0
  have hs0 := (hs.grows g0 (Nat.le_refl _)).more g0.size
  have HW := Lib.hid hw0
  have HPB := Lib.hid hpb
  have FIN : Hid (∀ w2, Below w0.heap.size w0 w2 → Below w.heap.size w w2) := Lib.hid fun w2 h => bwTrans g0.below h g0.size
  have HF := Lib.hid (lv_Fold yr ca ex un l A cap w0 hi t0 hs0)
  have HP := Lib.hid p0
  have hlen := hi.len
  have HS := Lib.hid hs0
  have HI := Lib.hid hi
  clear hw0 hpb hs hs0 p0 hi
  by_cases h1 : 100 < l.length
  · go_enter Tryd.func3, Tryd.ntmps3
    go_wp2_with fail
    rw [HW.out]
    refine (AW.out _ t0).mono ?_
    rintro e' w2 ⟨rfl, hb⟩
    go_wp2
    go_ret
    exact ⟨rfl, FIN.out _ hb⟩
  have hle : l.length ≤ 100 := by omega
  have P0 : w0.cell? ⟨pb, 0, none⟩ = some (.int .i64 yr) := HP.out.cell 0
  have P1 : w0.cell? ⟨pb, 1, none⟩ = some (.int .i64 ca) := HP.out.cell 1
  have P2 : w0.cell? ⟨pb, 2, none⟩ = some (.int .i64 ex) := HP.out.cell 2
  have HRF := Lib.hid hrf
  have HCK := Lib.hid (fun A' c W hS => lr_Check yr ca ex un l A' c W HI.out hS)
  obtain ⟨c, hcv⟩ : ∃ c, chkV yr ca ex un l = c := ⟨_, rfl⟩
  obtain ⟨⟨g, t, e, k⟩, ha⟩ : ∃ a, accV yr ca ex un l = a := ⟨_, rfl⟩
  rw [hcv, ha] at HF
  rw [hcv] at HCK
  have HCV := Lib.hid hcv
  have HA := Lib.hid ha
  clear hrf hcv ha
  go_enter Tryd.func3, Tryd.ntmps3
  go_wp2_with fail
  rw [HW.out, HPB.out]
  refine (HF.out).mono ?_
  rintro e' w1 ⟨rfl, hb1⟩
  have t1 := t0.below hb1 t0.size
  have B1 : Hid (Bk pb 23 #[.int .i64 yr, .int .i64 ca, .int .i64 ex] w1) := Lib.hid ((hb1.block pb s0).trans HP.out)
  have S1 : Hid (Sl encM 3 w1 w1.heap.size A l) := Lib.hid ((HS.out.keep (fun b o hb => hb1.cell (p := ⟨b, o, none⟩) hb)).more hb1.size)
  clear P0 P1 P2
  go_wp2_with fail
  obtain ⟨ab, hab⟩ : ∃ x, w1.heap.size = x := ⟨_, rfl⟩
  obtain ⟨wa, hwa⟩ : ∃ x, w1.alloc (.cells #[.int .i64 g, .int .i64 t, .int .i64 e, .int .i64 k] 28) = x := ⟨_, rfl⟩
  have ga : Grows w1 wa := hwa ▸ .of_alloc _ _
  have AB : Hid (Bk ab 28 #[.int .i64 g, .int .i64 t, .int .i64 e, .int .i64 k] wa) := Lib.hid (hwa ▸ hab ▸ Bk.new w1 _ _)
  have B2 := Lib.hid (B1.out.grows ga)
  have S2 := Lib.hid ((S1.out.grows ga (Nat.le_refl _)).more ga.size)
  have ta := t1.grows ga
  have FIN2 : Hid (∀ w2, Below wa.heap.size wa w2 → Below w.heap.size w w2) := Lib.hid fun w2 h => FIN.out _ (bwTrans hb1 (bwTrans ga.below h ga.size) hb1.size)
  rw [hwa, hab]
  clear hwa hab hb1 ga
  have k0 : wa.cell? ⟨pb, 0, none⟩ = some (.int .i64 yr) := B2.out.cell 0
  have k1 : wa.cell? ⟨pb, 1, none⟩ = some (.int .i64 ca) := B2.out.cell 1
  have k2 : wa.cell? ⟨pb, 2, none⟩ = some (.int .i64 ex) := B2.out.cell 2
  have KK : Hid (∀ W w', Grows wa W → Below W.heap.size W w' → w'.cell? ⟨pb, 0, none⟩ = some (.int .i64 yr) ∧ w'.cell? ⟨pb, 1, none⟩ = some (.int .i64 ca) ∧ w'.cell? ⟨pb, 2, none⟩ = some (.int .i64 ex)) := Lib.hid (fun W w' hW hb => by
    have hB := B2.out.grows hW
    have hB' : Bk pb 23 #[.int .i64 yr, .int .i64 ca, .int .i64 ex] w' := (hb.block pb hB.lt).trans hB
    exact ⟨hB'.cell 0, hB'.cell 1, hB'.cell 2⟩)
  have SS : Hid (∀ W, Grows wa W → Sl encM 3 W W.heap.size A l) := Lib.hid (fun W hW => (S2.out.grows hW (Nat.le_refl _)).more hW.size)
  have HGD := Lib.hid (Grows.of_drew wa)
  go_region_held3 (fun w' => w'.cell? ⟨pb, 0, none⟩ = some (.int .i64 yr) ∧ w'.cell? ⟨pb, 1, none⟩ = some (.int .i64 ca) ∧ w'.cell? ⟨pb, 2, none⟩ = some (.int .i64 ex)) (first | exact KK.out _ _ HGD.out (bwTrans hb4 hg5.below hb4.size) | exact KK.out _ _ HGD.out hb4 | go_keep) (first | (go_at_call 12; refine (lw_moves l A cap _ hle (SS.out _ HGD.out)).mono ?_; rintro e' w4 ⟨v, rfl, ⟨A4, cp4, rfl, hs4⟩, hb4⟩) | (go_at_call 11; refine (HCK.out _ _ _ hs4).mono ?_; rintro e' w5 ⟨rfl, hg5⟩))
  have hb5 : Below wa.heap.size wa w5 := bwTrans HGD.out.below (bwTrans hb4 hg5.below hb4.size) HGD.out.size
  have HB5 := Lib.hid hb5
  have t5 := ta.below hb5 ta.size
  have AB5 : Hid (Bk ab 28 #[.int .i64 g, .int .i64 t, .int .i64 e, .int .i64 k] w5) := Lib.hid ((hb5.block ab AB.out.lt).trans AB.out)
  have FIN5 : Hid (∀ w2, Below w5.heap.size w5 w2 → Below w.heap.size w w2) := Lib.hid fun w2 h => FIN2.out _ (bwTrans HB5.out h HB5.out.size)
  clear hb4 hg5 hb5 k0 k1 k2 hs4
  by_cases hc : c = 0
  · subst hc
    have HRF2 : Hid (∀ W A' cp, Sl encM 3 W W.heap.size A' l → Calls Tryd.prog 13 #[.int .i64 yr, .int .i64 ca, .int .i64 ex, .int .i64 un, .slice A' l.length cp] W fun e' w' => e' = .returned (.agg #[.int .i64 g, .int .i64 t, .int .i64 e, .int .i64 k]) ∧ Below W.heap.size W w') := Lib.hid (fun W A' cp hS => by
      have h1 := HRF.out yr ca ex un l A' cp W (by omega) HCV.out hS
      have h2 := HA.out
      rw [accV_ok HCV.out] at h2
      rw [h2] at h1
      exact h1)
    have B5 := Lib.hid ((HB5.out.block pb B2.out.lt).trans B2.out)
    have k0 : w5.cell? ⟨pb, 0, none⟩ = some (.int .i64 yr) := Bk.cell B5.out 0
    have k1 : w5.cell? ⟨pb, 1, none⟩ = some (.int .i64 ca) := Bk.cell B5.out 1
    have k2 : w5.cell? ⟨pb, 2, none⟩ = some (.int .i64 ex) := Bk.cell B5.out 2
    have KK5 : Hid (∀ W w', Grows w5 W → Below W.heap.size W w' → w'.cell? ⟨pb, 0, none⟩ = some (.int .i64 yr) ∧ w'.cell? ⟨pb, 1, none⟩ = some (.int .i64 ca) ∧ w'.cell? ⟨pb, 2, none⟩ = some (.int .i64 ex)) := Lib.hid (fun W w' hW hb => by
      have hB := Bk.grows B5.out hW
      have hB' : Bk pb 23 #[.int .i64 yr, .int .i64 ca, .int .i64 ex] w' := (hb.block pb hB.lt).trans hB
      exact ⟨hB'.cell 0, hB'.cell 1, hB'.cell 2⟩)
    have S5 : Hid (Sl encM 3 w5 w5.heap.size A l) := Lib.hid ((S2.out.keep (fun b o hb => HB5.out.cell (p := ⟨b, o, none⟩) hb)).more HB5.out.size)
    have SS5 : Hid (∀ W, Grows w5 W → Sl encM 3 W W.heap.size A l) := Lib.hid (fun W hW => (S5.out.grows hW (Nat.le_refl _)).more hW.size)
    have HGD5 := Lib.hid (Grows.of_drew w5)
    have HGA5 : Hid (∀ o, Grows w5 (w5.alloc o).drew) := Lib.hid (fun o => (Grows.of_alloc w5 o).drew)
    have HNB2 : Hid (∀ w6 w7, Below (w5.alloc (.cells #[.int .i64 0, .int .i64 0, .int .i64 0, .int .i64 0] 35)).drew.heap.size (w5.alloc (.cells #[.int .i64 0, .int .i64 0, .int .i64 0, .int .i64 0] 35)).drew w6 → Below w6.heap.size w6 w7 → Bk w5.heap.size 35 #[.int .i64 0, .int .i64 0, .int .i64 0, .int .i64 0] w7 ∧ Below w5.heap.size w5 w7) := Lib.hid (fun w6 w7 h6 h7 =>
      have h := bwTrans h6 h7 h6.size
      ⟨(h.block w5.heap.size (size_new w5 _)).trans (new_block w5 _), bwTrans (HGA5.out _).below h (HGA5.out _).size⟩)
    have HNB3 : Hid (∀ w6 w7, Below w5.drew.heap.size w5.drew w6 → Below (w6.alloc (.cells #[.int .i64 0, .int .i64 0, .int .i64 0, .int .i64 0] 35)).heap.size (w6.alloc (.cells #[.int .i64 0, .int .i64 0, .int .i64 0, .int .i64 0] 35)) w7 → Bk w6.heap.size 35 #[.int .i64 0, .int .i64 0, .int .i64 0, .int .i64 0] w7 ∧ Below w5.heap.size w5 w7 ∧ w5.heap.size ≤ w6.heap.size) := Lib.hid (fun w6 w7 h6 h7 =>
      ⟨(h7.block w6.heap.size (size_new w6 _)).trans (new_block w6 _), bwTrans HGD5.out.below (bwTrans h6 (bwTrans (Grows.of_alloc w6 _).below h7 (Grows.of_alloc w6 _).size) h6.size) HGD5.out.size, h6.size⟩)
    go_wp2_with fail
    go_region_held3 (fun w' => w'.cell? ⟨pb, 0, none⟩ = some (.int .i64 yr) ∧ w'.cell? ⟨pb, 1, none⟩ = some (.int .i64 ca) ∧ w'.cell? ⟨pb, 2, none⟩ = some (.int .i64 ex)) (first
      | exact KK5.out _ _ HGD5.out (bwTrans hb6 (bwTrans (Grows.of_alloc w6 _).below hb7 (Grows.of_alloc w6 _).size) hb6.size)
      | exact KK5.out _ _ HGD5.out (bwTrans hb6 hb7 hb6.size)
      | exact KK5.out _ _ (HGA5.out _) (bwTrans hb6 hb7 hb6.size)
      | exact KK5.out _ _ HGD5.out (bwTrans hb6 (bwTrans hb7 (Grows.of_alloc w7 _).below hb7.size) hb6.size)
      | exact KK5.out w5 _ (.refl _) (((((HNB2.out _ _ hb6 hb7).2.setCell (Nat.le_refl _) _).setCell (Nat.le_refl _) _).setCell (Nat.le_refl _) _).setCell (Nat.le_refl _) _)
      | exact KK5.out w5 _ (.refl _) (((((HNB3.out _ _ hb6 hb7).2.1.setCell (HNB3.out _ _ hb6 hb7).2.2 _).setCell (HNB3.out _ _ hb6 hb7).2.2 _).setCell (HNB3.out _ _ hb6 hb7).2.2 _).setCell (HNB3.out _ _ hb6 hb7).2.2 _)
      | exact KK5.out _ _ HGD5.out (bwTrans hb6 (Grows.of_alloc w6 _).below hb6.size)
      | exact KK5.out _ _ HGD5.out hb6
      | exact KK5.out _ _ (HGA5.out _) hb6
      | go_keep) (first
      | (go_at_call 12; refine (lw_moves l A cap _ hle (SS5.out _ HGD5.out)).mono ?_; rintro e' w6 ⟨v, rfl, ⟨A6, cp6, rfl, hs6⟩, hb6⟩)
      | (go_at_call 12; refine (lw_moves l A cap _ hle (SS5.out _ (HGA5.out _))).mono ?_; rintro e' w6 ⟨v, rfl, ⟨A6, cp6, rfl, hs6⟩, hb6⟩)
      | (go_at_call 13; refine (HRF2.out _ _ _ ((hs6.grows (Grows.of_alloc w6 _) (Nat.le_refl _)).more (Grows.of_alloc w6 _).size)).mono ?_; rintro e' w7 ⟨rfl, hb7⟩; have z0 := (HNB3.out _ _ hb6 hb7).1.cell 0; have z1 := (HNB3.out _ _ hb6 hb7).1.cell 1; have z2 := (HNB3.out _ _ hb6 hb7).1.cell 2; have z3 := (HNB3.out _ _ hb6 hb7).1.cell 3; have y0 := (HNB3.out _ _ hb6 hb7).1.frozen 0; have y1 := (HNB3.out _ _ hb6 hb7).1.frozen 1; have y2 := (HNB3.out _ _ hb6 hb7).1.frozen 2; have y3 := (HNB3.out _ _ hb6 hb7).1.frozen 3)
      | (go_at_call 13; refine (HRF2.out _ _ _ hs6).mono ?_; rintro e' w7 ⟨rfl, hb7⟩; have z0 := (HNB2.out _ _ hb6 hb7).1.cell 0; have z1 := (HNB2.out _ _ hb6 hb7).1.cell 1; have z2 := (HNB2.out _ _ hb6 hb7).1.cell 2; have z3 := (HNB2.out _ _ hb6 hb7).1.cell 3; have y0 := (HNB2.out _ _ hb6 hb7).1.frozen 0; have y1 := (HNB2.out _ _ hb6 hb7).1.frozen 1; have y2 := (HNB2.out _ _ hb6 hb7).1.frozen 2; have y3 := (HNB2.out _ _ hb6 hb7).1.frozen 3)
      | (go_at_call 13; refine (HRF2.out _ _ _ hs6).mono ?_; rintro e' w7 ⟨rfl, hb7⟩))
    · have hz : Bk w7.heap.size 35 #[.int .i64 g, .int .i64 t, .int .i64 e, .int .i64 k] (w7.alloc (.cells #[.int .i64 g, .int .i64 t, .int .i64 e, .int .i64 k] 35)) := Bk.new w7 _ _
      have hbz : Below w5.heap.size w5 (w7.alloc (.cells #[.int .i64 g, .int .i64 t, .int .i64 e, .int .i64 k] 35)) := bwTrans HGD5.out.below (bwTrans hb6 (bwTrans hb7 (Grows.of_alloc w7 _).below hb7.size) hb6.size) HGD5.out.size
      have HZ := Lib.hid hz
      have HBZ := Lib.hid hbz
      clear hz hbz hb6 hb7 hs6 k0 k1 k2
      generalize w7.alloc (.cells #[.int .i64 g, .int .i64 t, .int .i64 e, .int .i64 k] 35) = wz at *
      have tz := t5.below HBZ.out t5.size
      have HAZ := Lib.hid ((HBZ.out.block ab AB5.out.lt).trans AB5.out)
      have FB6 : Hid (∀ w2, Below wz.heap.size wz w2 → Below w.heap.size w w2) := Lib.hid fun w2 h => FIN5.out _ (bwTrans HBZ.out h HBZ.out.size)
      generalize w7.heap.size = ab2 at *
      have a0 : wz.cell? ⟨ab, 0, none⟩ = some (.int .i64 g) := Bk.cell HAZ.out 0
      have a1 : wz.cell? ⟨ab, 1, none⟩ = some (.int .i64 t) := Bk.cell HAZ.out 1
      have a2 : wz.cell? ⟨ab, 2, none⟩ = some (.int .i64 e) := Bk.cell HAZ.out 2
      have a3 : wz.cell? ⟨ab, 3, none⟩ = some (.int .i64 k) := Bk.cell HAZ.out 3
      have r0 : wz.cell? ⟨ab2, 0, none⟩ = some (.int .i64 g) := HZ.out.cell 0
      have r1 : wz.cell? ⟨ab2, 1, none⟩ = some (.int .i64 t) := HZ.out.cell 1
      have r2 : wz.cell? ⟨ab2, 2, none⟩ = some (.int .i64 e) := HZ.out.cell 2
      have r3 : wz.cell? ⟨ab2, 3, none⟩ = some (.int .i64 k) := HZ.out.cell 3
      go_wp2_with fail
      refine (AW.out _ tz).mono ?_
      rintro e' w9 ⟨rfl, hb9⟩
      have FB := Lib.hid (FB6.out _ hb9)
      clear hb9
      go_wp2
      go_ret
      exact ⟨rfl, FB.out⟩
    · have hw := HNB3.out _ _ hb6 hb7
      have hz : Bk w6.heap.size 35 #[.int .i64 g, .int .i64 t, .int .i64 e, .int .i64 k] ((((w7.setCell ⟨w6.heap.size, 0, none⟩ (.int .i64 g)).setCell ⟨w6.heap.size, 1, none⟩ (.int .i64 t)).setCell ⟨w6.heap.size, 2, none⟩ (.int .i64 e)).setCell ⟨w6.heap.size, 3, none⟩ (.int .i64 k)) := (((hw.1.set_ 0 _).set_ 1 _).set_ 2 _).set_ 3 _
      have hbz : Below w5.heap.size w5 ((((w7.setCell ⟨w6.heap.size, 0, none⟩ (.int .i64 g)).setCell ⟨w6.heap.size, 1, none⟩ (.int .i64 t)).setCell ⟨w6.heap.size, 2, none⟩ (.int .i64 e)).setCell ⟨w6.heap.size, 3, none⟩ (.int .i64 k)) := (((hw.2.1.setCell hw.2.2 _).setCell hw.2.2 _).setCell hw.2.2 _).setCell hw.2.2 _
      have HZ := Lib.hid hz
      have HBZ := Lib.hid hbz
      clear hz hbz hw hb6 hb7 hs6 k0 k1 k2 z0 z1 z2 z3 y0 y1 y2 y3
      generalize ((((w7.setCell ⟨w6.heap.size, 0, none⟩ (.int .i64 g)).setCell ⟨w6.heap.size, 1, none⟩ (.int .i64 t)).setCell ⟨w6.heap.size, 2, none⟩ (.int .i64 e)).setCell ⟨w6.heap.size, 3, none⟩ (.int .i64 k)) = wz at *
      have tz := t5.below HBZ.out t5.size
      have HAZ := Lib.hid ((HBZ.out.block ab AB5.out.lt).trans AB5.out)
      have FB6 : Hid (∀ w2, Below wz.heap.size wz w2 → Below w.heap.size w w2) := Lib.hid fun w2 h => FIN5.out _ (bwTrans HBZ.out h HBZ.out.size)
      generalize w6.heap.size = ab2 at *
      have a0 : wz.cell? ⟨ab, 0, none⟩ = some (.int .i64 g) := Bk.cell HAZ.out 0
      have a1 : wz.cell? ⟨ab, 1, none⟩ = some (.int .i64 t) := Bk.cell HAZ.out 1
      have a2 : wz.cell? ⟨ab, 2, none⟩ = some (.int .i64 e) := Bk.cell HAZ.out 2
      have a3 : wz.cell? ⟨ab, 3, none⟩ = some (.int .i64 k) := Bk.cell HAZ.out 3
      have r0 : wz.cell? ⟨ab2, 0, none⟩ = some (.int .i64 g) := HZ.out.cell 0
      have r1 : wz.cell? ⟨ab2, 1, none⟩ = some (.int .i64 t) := HZ.out.cell 1
      have r2 : wz.cell? ⟨ab2, 2, none⟩ = some (.int .i64 e) := HZ.out.cell 2
      have r3 : wz.cell? ⟨ab2, 3, none⟩ = some (.int .i64 k) := HZ.out.cell 3
      go_wp2_with fail
      refine (AW.out _ tz).mono ?_
      rintro e' w9 ⟨rfl, hb9⟩
      have FB := Lib.hid (FB6.out _ hb9)
      clear hb9
      go_wp2
      go_ret
      exact ⟨rfl, FB.out⟩
    · have hw := HNB2.out _ _ hb6 hb7
      have hz : Bk w5.heap.size 35 #[.int .i64 g, .int .i64 t, .int .i64 e, .int .i64 k] ((((w7.setCell ⟨w5.heap.size, 0, none⟩ (.int .i64 g)).setCell ⟨w5.heap.size, 1, none⟩ (.int .i64 t)).setCell ⟨w5.heap.size, 2, none⟩ (.int .i64 e)).setCell ⟨w5.heap.size, 3, none⟩ (.int .i64 k)) := (((hw.1.set_ 0 _).set_ 1 _).set_ 2 _).set_ 3 _
      have hbz : Below w5.heap.size w5 ((((w7.setCell ⟨w5.heap.size, 0, none⟩ (.int .i64 g)).setCell ⟨w5.heap.size, 1, none⟩ (.int .i64 t)).setCell ⟨w5.heap.size, 2, none⟩ (.int .i64 e)).setCell ⟨w5.heap.size, 3, none⟩ (.int .i64 k)) := (((hw.2.setCell (Nat.le_refl _) _).setCell (Nat.le_refl _) _).setCell (Nat.le_refl _) _).setCell (Nat.le_refl _) _
      have HZ := Lib.hid hz
      have HBZ := Lib.hid hbz
      clear hz hbz hw hb6 hb7 hs6 k0 k1 k2 z0 z1 z2 z3 y0 y1 y2 y3
      generalize ((((w7.setCell ⟨w5.heap.size, 0, none⟩ (.int .i64 g)).setCell ⟨w5.heap.size, 1, none⟩ (.int .i64 t)).setCell ⟨w5.heap.size, 2, none⟩ (.int .i64 e)).setCell ⟨w5.heap.size, 3, none⟩ (.int .i64 k)) = wz at *
      have tz := t5.below HBZ.out t5.size
      have HAZ := Lib.hid ((HBZ.out.block ab AB5.out.lt).trans AB5.out)
      have FB6 : Hid (∀ w2, Below wz.heap.size wz w2 → Below w.heap.size w w2) := Lib.hid fun w2 h => FIN5.out _ (bwTrans HBZ.out h HBZ.out.size)
      generalize w5.heap.size = ab2 at *
      have a0 : wz.cell? ⟨ab, 0, none⟩ = some (.int .i64 g) := Bk.cell HAZ.out 0
      have a1 : wz.cell? ⟨ab, 1, none⟩ = some (.int .i64 t) := Bk.cell HAZ.out 1
      have a2 : wz.cell? ⟨ab, 2, none⟩ = some (.int .i64 e) := Bk.cell HAZ.out 2
      have a3 : wz.cell? ⟨ab, 3, none⟩ = some (.int .i64 k) := Bk.cell HAZ.out 3
      have r0 : wz.cell? ⟨ab2, 0, none⟩ = some (.int .i64 g) := HZ.out.cell 0
      have r1 : wz.cell? ⟨ab2, 1, none⟩ = some (.int .i64 t) := HZ.out.cell 1
      have r2 : wz.cell? ⟨ab2, 2, none⟩ = some (.int .i64 e) := HZ.out.cell 2
      have r3 : wz.cell? ⟨ab2, 3, none⟩ = some (.int .i64 k) := HZ.out.cell 3
      go_wp2_with fail
      refine (AW.out _ tz).mono ?_
      rintro e' w9 ⟨rfl, hb9⟩
      have FB := Lib.hid (FB6.out _ hb9)
      clear hb9
      go_wp2
      go_ret
      exact ⟨rfl, FB.out⟩
  · have hc2 : (c != 0) = true := bne_iff_ne.2 hc
    obtain ⟨rfl, rfl, rfl, rfl⟩ : g = 0 ∧ t = 0 ∧ e = 0 ∧ k = 0 := by
      have h1 := HA.out
      rw [accV_no (by rw [HCV.out]; exact hc)] at h1
      simp only [Prod.mk.injEq] at h1
      omega
    have z0 : w5.cell? ⟨ab, 0, none⟩ = some (.int .i64 0) := AB5.out.cell 0
    have z1 : w5.cell? ⟨ab, 1, none⟩ = some (.int .i64 0) := AB5.out.cell 1
    have z2 : w5.cell? ⟨ab, 2, none⟩ = some (.int .i64 0) := AB5.out.cell 2
    have z3 : w5.cell? ⟨ab, 3, none⟩ = some (.int .i64 0) := AB5.out.cell 3
    go_wp2_with fail
    refine (AW.out _ t5).mono ?_
    rintro e' w6 ⟨rfl, hb6⟩
    have FB := Lib.hid (FIN5.out _ hb6)
    clear hb6
    go_wp2
    go_ret
    exact ⟨rfl, FB.out⟩
end Go.Proofs.YtkbpdbfldijeeaaDoor
