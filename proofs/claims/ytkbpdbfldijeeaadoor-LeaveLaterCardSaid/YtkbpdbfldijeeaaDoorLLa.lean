/- The walk of LeaveLater. -/
import Derived.Test.YtkbpdbfldijeeaaDoorFol
import Derived.Deep.RegionHeld3
import Derived.Deep.DeepCutAuto
import Derived.Deep.DrawnRows
import Derived.WalkSpells
namespace Go.Proofs.YtkbpdbfldijeeaaDoor
open Go.RowKit Go.Sort Go.BigFrame
attribute [local go_sem ↓] Go.wp_at_zero Go.wp_at_succ

set_option maxHeartbeats 4000000 in
theorem lw_Later (yr ca ex un : Int) (l : List Mv) (A : Option Addr) (cap : Nat) (w : World) (hi : Ints un l) (hcap : l.length ≤ cap) (ht : Tabs w) (hs : Sl encM 3 w w.heap.size A l) :
    Calls Tryd.prog 5 #[.agg #[.int .i64 yr, .int .i64 ca, .int .i64 ex], .int .i64 un, .slice A l.length cap] w fun e' w' => e' = .returned (.bool true) ∧ Below w.heap.size w w' := by
  have AW := Lib.hid (fun W (hT : Tabs W) => lv_awake W hT)
  obtain ⟨pb, hpb⟩ : ∃ x, w.heap.size = x := ⟨_, rfl⟩
  obtain ⟨w0, hw0⟩ : ∃ x, w.alloc (.cells #[.int .i64 yr, .int .i64 ca, .int .i64 ex] 23) = x := ⟨_, rfl⟩
  have g0 : Grows w w0 := hw0 ▸ .of_alloc _ _
  have s0 : pb < w0.heap.size := hw0 ▸ hpb ▸ size_new _ _
  have p0 : Bk pb 23 #[.int .i64 yr, .int .i64 ca, .int .i64 ex] w0 := hw0 ▸ hpb ▸ Bk.new w _ _
  have t0 := ht.grows g0
  have hs0 := (hs.grows g0 (Nat.le_refl _)).more g0.size
  have HW := Lib.hid hw0
  have HPB := Lib.hid hpb
  have FIN : Hid (∀ w2, Below w0.heap.size w0 w2 → Below w.heap.size w w2) := Lib.hid fun w2 h => bwTrans g0.below h g0.size
  have HF := Lib.hid (lv_Fold yr ca ex un l A cap w0 hi t0 hs0)
  have HP := Lib.hid p0
  have hlen := hi.len
  have HS := Lib.hid hs0
  have HI := Lib.hid hi
  clear hw0 hpb hs hs0 p0 hi
  by_cases h1 : 100 < l.length
  · go_enter Tryd.func5, Tryd.ntmps5
    go_wp2_with fail
    rw [HW.out]
    refine (AW.out _ t0).mono ?_
    rintro e' w2 ⟨rfl, hb⟩
    go_wp2
    go_ret
    exact ⟨rfl, FIN.out _ hb⟩
  have P0 : w0.cell? ⟨pb, 0, none⟩ = some (.int .i64 yr) := HP.out.cell 0
  have P1 : w0.cell? ⟨pb, 1, none⟩ = some (.int .i64 ca) := HP.out.cell 1
  have P2 : w0.cell? ⟨pb, 2, none⟩ = some (.int .i64 ex) := HP.out.cell 2
  by_cases h2 : chkV yr ca ex un l = 0
  · have hr := right_of h2
    obtain ⟨⟨g, t, e, k⟩, ha⟩ : ∃ a, accV yr ca ex un l = a := ⟨_, rfl⟩
    rw [h2, ha] at HF
    have HR := Lib.hid hr
    have HA := Lib.hid ha
    have H2 := Lib.hid h2
    clear hr ha h2
    go_enter Tryd.func5, Tryd.ntmps5
    go_wp2_with fail
    rw [HW.out, HPB.out]
    refine (HF.out).mono ?_
    rintro e' w1 ⟨rfl, hb1⟩
    have t1 := t0.below hb1 t0.size
    have B1 : Hid (Bk pb 23 #[.int .i64 yr, .int .i64 ca, .int .i64 ex] w1) := Lib.hid ((hb1.block pb s0).trans HP.out)
    have S1 : Hid (Sl encM 3 w1 w1.heap.size A l) := Lib.hid ((HS.out.keep (fun b o hb => hb1.cell (p := ⟨b, o, none⟩) hb)).more hb1.size)
    clear P0 P1 P2
    go_wp2
    obtain ⟨ab, hab⟩ : ∃ x, w1.heap.size = x := ⟨_, rfl⟩
    obtain ⟨wa, hwa⟩ : ∃ x, w1.alloc (.cells #[.int .i64 g, .int .i64 t, .int .i64 e, .int .i64 k] 28) = x := ⟨_, rfl⟩
    have ga : Grows w1 wa := hwa ▸ .of_alloc _ _
    have AB : Hid (Bk ab 28 #[.int .i64 g, .int .i64 t, .int .i64 e, .int .i64 k] wa) := Lib.hid (hwa ▸ hab ▸ Bk.new w1 _ _)
    have B2 := Lib.hid (B1.out.grows ga)
    have S2 := Lib.hid ((S1.out.grows ga (Nat.le_refl _)).more ga.size)
    have ta := t1.grows ga
    have FIN2 : Hid (∀ w2, Below wa.heap.size wa w2 → Below w.heap.size w w2) := Lib.hid fun w2 h => FIN.out _ (bwTrans hb1 (bwTrans ga.below h ga.size) hb1.size)
    rw [hwa, hab]
    clear hwa hab hb1 ga
    go_loopw [9, 10, 11] (fun nv gv tv wr => ∃ n : Nat, n ≤ l.length ∧ nv = .int .i64 n ∧ gv = .int .i64 (gsum (l.take n)) ∧ tv = .int .i64 (tsum (l.take n)) ∧ Hid (∀ x ∈ l.take n, x.1 ≤ un) ∧ Grows wa wr) (fun nv _ _ _ => l.length - (intOf nv).toNat)
    case atStart => exact ⟨0, Nat.zero_le _, rfl, by simp [gsum], by simp [tsum], Lib.hid (by simp), .refl _⟩
    case round =>
      obtain ⟨n, hn, rfl, rfl, rfl, HU, hg⟩ := hrel
      by_cases hcont : n < l.length ∧ dayOf l n ≤ un
      · obtain ⟨hlt, hdd⟩ := hcont
        obtain ⟨b, off, rfl, hB, hc⟩ := S2.out (by intro h; simp [h] at hlt)
        obtain ⟨⟨d, gr, tk⟩, hx⟩ : ∃ x, l[n]? = some x := ⟨_, List.getElem?_eq_getElem hlt⟩
        have C0 : wr.cell? ⟨b, off + n * 3, none⟩ = some (.int .i64 d) := hg.cell hB (by simpa using hc n _ hx 0 _ rfl)
        have C1 : wr.cell? ⟨b, off + n * 3 + 1, none⟩ = some (.int .i64 gr) := hg.cell hB (hc n _ hx 1 _ rfl)
        have C2 : wr.cell? ⟨b, off + n * 3 + 2, none⟩ = some (.int .i64 tk) := hg.cell hB (hc n _ hx 2 _ rfl)
        have hfit := (HR.out.each _ (List.mem_of_getElem? hx)).2
        have HX := Lib.hid hx
        rw [dayOf_at hx] at hdd
        have hd : d ≤ un := hdd
        clear hx hc hdd
        have bg := gsum_bd (l := l.take n) (fun x hx => (HR.out.each x (List.mem_of_mem_take hx)).2)
        have hln : (l.take n).length ≤ 100 := by rw [List.length_take]; omega
        unfold unfit at hfit
        simp only at hfit
        have HG1 : Hid (gsum (l.take (n + 1)) = gsum (l.take n) + gr ∧ tsum (l.take (n + 1)) = tsum (l.take n) + tk) := Lib.hid (by rw [List.take_add_one, HX.out]; exact ⟨gsum_snoc _ _, tsum_snoc _ _⟩)
        have HU1 : Hid (∀ x ∈ l.take (n + 1), x.1 ≤ un) := Lib.hid (by
          rw [List.take_add_one, HX.out]
          intro x hx
          rcases List.mem_append.1 hx with hx | hx
          · exact HU.out x hx
          · simp at hx; rw [hx]; exact hd)
        generalize gsum (l.take n) = G at *
        generalize tsum (l.take n) = T at *
        go_wp2
        go_quiet (fail)
        go_wp2
        refine ⟨⟨n + 1, by omega, by go_num, by rw [HG1.out.1], by rw [HG1.out.2], HU1, hg.drewN _⟩, by simp [intOf]; omega⟩
      · -- behind the last one that counts
        have hB : ∀ x ∈ l.drop n, un < x.1 := by
          intro x hx
          obtain ⟨i, hi, rfl⟩ := List.mem_iff_getElem.1 hx
          rw [List.length_drop] at hi
          rw [List.getElem_drop]
          have h0 : ¬ dayOf l n ≤ un := fun h => hcont ⟨by omega, h⟩
          rw [dayOf_at (List.getElem?_eq_getElem (show n < l.length by omega))] at h0
          by_cases hz : i = 0
          · subst hz; simpa using h0
          · have := List.pairwise_iff_getElem.1 HR.out.ord n (n + i) (by omega) (by omega) (by omega)
            omega
        have hsp : l.take n ++ l.drop n = l := List.take_append_drop n l
        have hla := foldF_late (yr := yr) (ca := ca) (ex := ex) (un := un) (A := l.take n) (B := l.drop n) (by rw [hsp]; exact HR.out) hB
        rw [hsp] at hla
        have hac : accV yr ca ex un (l.take n) = (g, t, e, k) := by
          rw [accV_ok (chk_of hla.1), ← HA.out, accV_ok H2.out]
          unfold foldV
          rw [hla.2]
        have hgt := foldF_g hla.1 HU.out
        have hG : gsum (l.take n) = g ∧ tsum (l.take n) = t := by
          rw [← hgt.1, ← hgt.2, ← hla.2]
          have := HA.out
          rw [accV_ok H2.out] at this
          unfold foldV at this
          simp only [Prod.mk.injEq] at this
          exact ⟨this.1, this.2.1⟩
        have hln : (l.take n).length = n := by rw [List.length_take]; omega
        have hFn : ∀ W, Tabs W → Sl encM 3 W W.heap.size A (l.take n) → Calls Tryd.prog 10 #[.agg #[.int .i64 yr, .int .i64 ca, .int .i64 ex], .int .i64 un, .slice A n cap] W fun e' w' =>
            e' = .returned (.tuple #[.agg #[.int .i64 g, .int .i64 t, .int .i64 e, .int .i64 k], .int .i64 0]) ∧ Below W.heap.size W w' := fun W hT hS => by
          have := lv_Fold yr ca ex un (l.take n) A cap W ⟨by omega, HI.out.un, fun x hx => HI.out.day x (List.mem_of_mem_take hx)⟩ hT hS
          rw [hac, chk_of hla.1, hln] at this
          exact this
        have HFN := Lib.hid hFn
        have S3 : Hid (∀ W, Grows wr W → Sl encM 3 W W.heap.size A (l.take n)) := Lib.hid (fun W hW => by
          have h1 := (S2.out.grows (hg.trans hW) (Nat.le_refl _)).more (hg.trans hW).size
          intro hne
          have hl0 : l ≠ [] := fun h => hne (by simp [h])
          obtain ⟨b, off, e, hb, hc⟩ := h1 hl0
          exact ⟨b, off, e, hb, fun i x hx j u hu => hc i x (by rw [List.getElem?_take] at hx; split at hx; exact hx; cases hx) j u hu⟩)
        have T3 := ta.grows hg
        have B3 := B2.out.grows hg
        have A3 := Lib.hid (AB.out.grows hg)
        rw [hG.1, hG.2]
        have hcn : n ≤ cap := by omega
        clear hG hgt hac hla hsp hB hFn hln HU
        by_cases hlt : n < l.length
        · obtain ⟨b, off, rfl, hB, hc⟩ := S2.out (by intro h; simp [h] at hlt)
          obtain ⟨⟨d, gr, tk⟩, hx⟩ : ∃ x, l[n]? = some x := ⟨_, List.getElem?_eq_getElem hlt⟩
          have C0 : wr.cell? ⟨b, off + n * 3, none⟩ = some (.int .i64 d) := hg.cell hB (by simpa using hc n _ hx 0 _ rfl)
          have hd : ¬ d ≤ un := fun h => hcont ⟨hlt, by rw [dayOf_at hx]; exact h⟩
          clear hx hc hcont
          go_wp2_with fail
          have k0 : wr.cell? ⟨pb, 0, none⟩ = some (.int .i64 yr) := B3.cell 0
          have k1 : wr.cell? ⟨pb, 1, none⟩ = some (.int .i64 ca) := B3.cell 1
          have k2 : wr.cell? ⟨pb, 2, none⟩ = some (.int .i64 ex) := B3.cell 2
          have KK : Hid (∀ W w', Grows wr W → Below W.heap.size W w' → w'.cell? ⟨pb, 0, none⟩ = some (.int .i64 yr) ∧ w'.cell? ⟨pb, 1, none⟩ = some (.int .i64 ca) ∧ w'.cell? ⟨pb, 2, none⟩ = some (.int .i64 ex)) := Lib.hid (fun W w' hW hb => by
            have hB := B3.grows hW
            have hB' : Bk pb 23 #[.int .i64 yr, .int .i64 ca, .int .i64 ex] w' := (hb.block pb hB.lt).trans hB
            exact ⟨hB'.cell 0, hB'.cell 1, hB'.cell 2⟩)
          have GA : ∀ o, Grows wr (wr.alloc o).drew := fun o => (Grows.of_alloc wr o).drew
          have GD : Grows wr wr.drew := Grows.of_drew wr
          have HGA := Lib.hid GA
          have HGD := Lib.hid GD
          clear GA GD
          have HNB : Hid (∀ w4, Below (wr.alloc (.cells #[.int .i64 0, .int .i64 0, .int .i64 0, .int .i64 0] 28)).drew.heap.size (wr.alloc (.cells #[.int .i64 0, .int .i64 0, .int .i64 0, .int .i64 0] 28)).drew w4 → Bk wr.heap.size 28 #[.int .i64 0, .int .i64 0, .int .i64 0, .int .i64 0] w4 ∧ Below wr.heap.size wr w4) := Lib.hid (fun w4 h => ⟨(h.block wr.heap.size (size_new wr _)).trans (new_block wr _), bwTrans (HGA.out _).below h (HGA.out _).size⟩)
          go_region_held3 (fun w' => w'.cell? ⟨pb, 0, none⟩ = some (.int .i64 yr) ∧ w'.cell? ⟨pb, 1, none⟩ = some (.int .i64 ca) ∧ w'.cell? ⟨pb, 2, none⟩ = some (.int .i64 ex)) (first | exact KK.out _ _ HGD.out hb4 | exact KK.out _ _ (HGA.out _) hb4 | exact KK.out _ _ HGD.out (bwTrans hb4 (Grows.of_alloc w4 _).below hb4.size) | exact KK.out wr _ (.refl _) (((((HNB.out _ hb4).2.setCell (Nat.le_refl _) _).setCell (Nat.le_refl _) _).setCell (Nat.le_refl _) _).setCell (Nat.le_refl _) _) | go_keep) (first | (go_at_call 10; refine (HFN.out _ (T3.grows HGD.out) (S3.out _ HGD.out)).mono ?_; rintro e' w4 ⟨rfl, hb4⟩) | (go_at_call 10; refine (HFN.out _ (T3.grows (HGA.out _)) (S3.out _ (HGA.out _))).mono ?_; rintro e' w4 ⟨rfl, hb4⟩; have z0 := (HNB.out _ hb4).1.cell 0; have z1 := (HNB.out _ hb4).1.cell 1; have z2 := (HNB.out _ hb4).1.cell 2; have z3 := (HNB.out _ hb4).1.cell 3; have y0 := (HNB.out _ hb4).1.frozen 0; have y1 := (HNB.out _ hb4).1.frozen 1; have y2 := (HNB.out _ hb4).1.frozen 2; have y3 := (HNB.out _ hb4).1.frozen 3))
          · have hz : Bk w4.heap.size 28 #[.int .i64 g, .int .i64 t, .int .i64 e, .int .i64 k] (w4.alloc (.cells #[.int .i64 g, .int .i64 t, .int .i64 e, .int .i64 k] 28)) := Bk.new w4 _ _
            have hbz : Below wa.heap.size wa (w4.alloc (.cells #[.int .i64 g, .int .i64 t, .int .i64 e, .int .i64 k] 28)) := bwTrans (hg.trans HGD.out).below (bwTrans hb4 (Grows.of_alloc w4 _).below hb4.size) (hg.trans HGD.out).size
            have HZ := Lib.hid hz
            have HBZ := Lib.hid hbz
            clear hz hbz hb4 k0 k1 k2
            generalize w4.alloc (.cells #[.int .i64 g, .int .i64 t, .int .i64 e, .int .i64 k] 28) = wz at *
            generalize w4.heap.size = ab2 at *
            have HAZ := Lib.hid ((HBZ.out.block ab AB.out.lt).trans AB.out)
            have a0 : wz.cell? ⟨ab, 0, none⟩ = some (.int .i64 g) := Bk.cell HAZ.out 0
            have a1 : wz.cell? ⟨ab, 1, none⟩ = some (.int .i64 t) := Bk.cell HAZ.out 1
            have a2 : wz.cell? ⟨ab, 2, none⟩ = some (.int .i64 e) := Bk.cell HAZ.out 2
            have a3 : wz.cell? ⟨ab, 3, none⟩ = some (.int .i64 k) := Bk.cell HAZ.out 3
            have r0 : wz.cell? ⟨ab2, 0, none⟩ = some (.int .i64 g) := HZ.out.cell 0
            have r1 : wz.cell? ⟨ab2, 1, none⟩ = some (.int .i64 t) := HZ.out.cell 1
            have r2 : wz.cell? ⟨ab2, 2, none⟩ = some (.int .i64 e) := HZ.out.cell 2
            have r3 : wz.cell? ⟨ab2, 3, none⟩ = some (.int .i64 k) := HZ.out.cell 3
            go_wp2_with fail
            refine (AW.out _ (ta.below HBZ.out ta.size)).mono ?_
            rintro e' w5 ⟨rfl, hb5⟩
            have FB := Lib.hid (FIN2.out _ (bwTrans HBZ.out hb5 HBZ.out.size))
            clear hb5
            go_wp2
            go_ret
            exact ⟨rfl, FB.out⟩
          · have hw4 := HNB.out _ hb4
            have hz : Bk wr.heap.size 28 #[.int .i64 g, .int .i64 t, .int .i64 e, .int .i64 k] ((((w4.setCell ⟨wr.heap.size, 0, none⟩ (.int .i64 g)).setCell ⟨wr.heap.size, 1, none⟩ (.int .i64 t)).setCell ⟨wr.heap.size, 2, none⟩ (.int .i64 e)).setCell ⟨wr.heap.size, 3, none⟩ (.int .i64 k)) := (((hw4.1.set_ 0 _).set_ 1 _).set_ 2 _).set_ 3 _
            have hbz : Below wa.heap.size wa ((((w4.setCell ⟨wr.heap.size, 0, none⟩ (.int .i64 g)).setCell ⟨wr.heap.size, 1, none⟩ (.int .i64 t)).setCell ⟨wr.heap.size, 2, none⟩ (.int .i64 e)).setCell ⟨wr.heap.size, 3, none⟩ (.int .i64 k)) := bwTrans hg.below ((((hw4.2.setCell (Nat.le_refl _) _).setCell (Nat.le_refl _) _).setCell (Nat.le_refl _) _).setCell (Nat.le_refl _) _) hg.size
            clear z0 z1 z2 z3 y0 y1 y2 y3 hw4
            have HZ := Lib.hid hz
            have HBZ := Lib.hid hbz
            clear hz hbz hb4 k0 k1 k2
            generalize (((w4.setCell ⟨wr.heap.size, 0, none⟩ (.int .i64 g)).setCell ⟨wr.heap.size, 1, none⟩ (.int .i64 t)).setCell ⟨wr.heap.size, 2, none⟩ (.int .i64 e)).setCell ⟨wr.heap.size, 3, none⟩ (.int .i64 k) = wz at *
            generalize wr.heap.size = ab2 at *
            have HAZ := Lib.hid ((HBZ.out.block ab AB.out.lt).trans AB.out)
            have a0 : wz.cell? ⟨ab, 0, none⟩ = some (.int .i64 g) := Bk.cell HAZ.out 0
            have a1 : wz.cell? ⟨ab, 1, none⟩ = some (.int .i64 t) := Bk.cell HAZ.out 1
            have a2 : wz.cell? ⟨ab, 2, none⟩ = some (.int .i64 e) := Bk.cell HAZ.out 2
            have a3 : wz.cell? ⟨ab, 3, none⟩ = some (.int .i64 k) := Bk.cell HAZ.out 3
            have r0 : wz.cell? ⟨ab2, 0, none⟩ = some (.int .i64 g) := HZ.out.cell 0
            have r1 : wz.cell? ⟨ab2, 1, none⟩ = some (.int .i64 t) := HZ.out.cell 1
            have r2 : wz.cell? ⟨ab2, 2, none⟩ = some (.int .i64 e) := HZ.out.cell 2
            have r3 : wz.cell? ⟨ab2, 3, none⟩ = some (.int .i64 k) := HZ.out.cell 3
            go_wp2_with fail
            refine (AW.out _ (ta.below HBZ.out ta.size)).mono ?_
            rintro e' w5 ⟨rfl, hb5⟩
            have FB := Lib.hid (FIN2.out _ (bwTrans HBZ.out hb5 HBZ.out.size))
            clear hb5
            go_wp2
            go_ret
            exact ⟨rfl, FB.out⟩
        · clear hcont
          go_wp2_with fail
          have k0 : wr.cell? ⟨pb, 0, none⟩ = some (.int .i64 yr) := B3.cell 0
          have k1 : wr.cell? ⟨pb, 1, none⟩ = some (.int .i64 ca) := B3.cell 1
          have k2 : wr.cell? ⟨pb, 2, none⟩ = some (.int .i64 ex) := B3.cell 2
          have KK : Hid (∀ W w', Grows wr W → Below W.heap.size W w' → w'.cell? ⟨pb, 0, none⟩ = some (.int .i64 yr) ∧ w'.cell? ⟨pb, 1, none⟩ = some (.int .i64 ca) ∧ w'.cell? ⟨pb, 2, none⟩ = some (.int .i64 ex)) := Lib.hid (fun W w' hW hb => by
            have hB := B3.grows hW
            have hB' : Bk pb 23 #[.int .i64 yr, .int .i64 ca, .int .i64 ex] w' := (hb.block pb hB.lt).trans hB
            exact ⟨hB'.cell 0, hB'.cell 1, hB'.cell 2⟩)
          have GA : ∀ o, Grows wr (wr.alloc o).drew := fun o => (Grows.of_alloc wr o).drew
          have GD : Grows wr wr.drew := Grows.of_drew wr
          have HGA := Lib.hid GA
          have HGD := Lib.hid GD
          clear GA GD
          have HNB : Hid (∀ w4, Below (wr.alloc (.cells #[.int .i64 0, .int .i64 0, .int .i64 0, .int .i64 0] 28)).drew.heap.size (wr.alloc (.cells #[.int .i64 0, .int .i64 0, .int .i64 0, .int .i64 0] 28)).drew w4 → Bk wr.heap.size 28 #[.int .i64 0, .int .i64 0, .int .i64 0, .int .i64 0] w4 ∧ Below wr.heap.size wr w4) := Lib.hid (fun w4 h => ⟨(h.block wr.heap.size (size_new wr _)).trans (new_block wr _), bwTrans (HGA.out _).below h (HGA.out _).size⟩)
          go_region_held3 (fun w' => w'.cell? ⟨pb, 0, none⟩ = some (.int .i64 yr) ∧ w'.cell? ⟨pb, 1, none⟩ = some (.int .i64 ca) ∧ w'.cell? ⟨pb, 2, none⟩ = some (.int .i64 ex)) (first | exact KK.out _ _ HGD.out hb4 | exact KK.out _ _ (HGA.out _) hb4 | exact KK.out _ _ HGD.out (bwTrans hb4 (Grows.of_alloc w4 _).below hb4.size) | exact KK.out wr _ (.refl _) (((((HNB.out _ hb4).2.setCell (Nat.le_refl _) _).setCell (Nat.le_refl _) _).setCell (Nat.le_refl _) _).setCell (Nat.le_refl _) _) | go_keep) (first | (go_at_call 10; refine (HFN.out _ (T3.grows HGD.out) (S3.out _ HGD.out)).mono ?_; rintro e' w4 ⟨rfl, hb4⟩) | (go_at_call 10; refine (HFN.out _ (T3.grows (HGA.out _)) (S3.out _ (HGA.out _))).mono ?_; rintro e' w4 ⟨rfl, hb4⟩; have z0 := (HNB.out _ hb4).1.cell 0; have z1 := (HNB.out _ hb4).1.cell 1; have z2 := (HNB.out _ hb4).1.cell 2; have z3 := (HNB.out _ hb4).1.cell 3; have y0 := (HNB.out _ hb4).1.frozen 0; have y1 := (HNB.out _ hb4).1.frozen 1; have y2 := (HNB.out _ hb4).1.frozen 2; have y3 := (HNB.out _ hb4).1.frozen 3))
          · have hz : Bk w4.heap.size 28 #[.int .i64 g, .int .i64 t, .int .i64 e, .int .i64 k] (w4.alloc (.cells #[.int .i64 g, .int .i64 t, .int .i64 e, .int .i64 k] 28)) := Bk.new w4 _ _
            have hbz : Below wa.heap.size wa (w4.alloc (.cells #[.int .i64 g, .int .i64 t, .int .i64 e, .int .i64 k] 28)) := bwTrans (hg.trans HGD.out).below (bwTrans hb4 (Grows.of_alloc w4 _).below hb4.size) (hg.trans HGD.out).size
            have HZ := Lib.hid hz
            have HBZ := Lib.hid hbz
            clear hz hbz hb4 k0 k1 k2
            generalize w4.alloc (.cells #[.int .i64 g, .int .i64 t, .int .i64 e, .int .i64 k] 28) = wz at *
            generalize w4.heap.size = ab2 at *
            have HAZ := Lib.hid ((HBZ.out.block ab AB.out.lt).trans AB.out)
            have a0 : wz.cell? ⟨ab, 0, none⟩ = some (.int .i64 g) := Bk.cell HAZ.out 0
            have a1 : wz.cell? ⟨ab, 1, none⟩ = some (.int .i64 t) := Bk.cell HAZ.out 1
            have a2 : wz.cell? ⟨ab, 2, none⟩ = some (.int .i64 e) := Bk.cell HAZ.out 2
            have a3 : wz.cell? ⟨ab, 3, none⟩ = some (.int .i64 k) := Bk.cell HAZ.out 3
            have r0 : wz.cell? ⟨ab2, 0, none⟩ = some (.int .i64 g) := HZ.out.cell 0
            have r1 : wz.cell? ⟨ab2, 1, none⟩ = some (.int .i64 t) := HZ.out.cell 1
            have r2 : wz.cell? ⟨ab2, 2, none⟩ = some (.int .i64 e) := HZ.out.cell 2
            have r3 : wz.cell? ⟨ab2, 3, none⟩ = some (.int .i64 k) := HZ.out.cell 3
            go_wp2_with fail
            refine (AW.out _ (ta.below HBZ.out ta.size)).mono ?_
            rintro e' w5 ⟨rfl, hb5⟩
            have FB := Lib.hid (FIN2.out _ (bwTrans HBZ.out hb5 HBZ.out.size))
            clear hb5
            go_wp2
            go_ret
            exact ⟨rfl, FB.out⟩
          · have hw4 := HNB.out _ hb4
            have hz : Bk wr.heap.size 28 #[.int .i64 g, .int .i64 t, .int .i64 e, .int .i64 k] ((((w4.setCell ⟨wr.heap.size, 0, none⟩ (.int .i64 g)).setCell ⟨wr.heap.size, 1, none⟩ (.int .i64 t)).setCell ⟨wr.heap.size, 2, none⟩ (.int .i64 e)).setCell ⟨wr.heap.size, 3, none⟩ (.int .i64 k)) := (((hw4.1.set_ 0 _).set_ 1 _).set_ 2 _).set_ 3 _
            have hbz : Below wa.heap.size wa ((((w4.setCell ⟨wr.heap.size, 0, none⟩ (.int .i64 g)).setCell ⟨wr.heap.size, 1, none⟩ (.int .i64 t)).setCell ⟨wr.heap.size, 2, none⟩ (.int .i64 e)).setCell ⟨wr.heap.size, 3, none⟩ (.int .i64 k)) := bwTrans hg.below ((((hw4.2.setCell (Nat.le_refl _) _).setCell (Nat.le_refl _) _).setCell (Nat.le_refl _) _).setCell (Nat.le_refl _) _) hg.size
            clear z0 z1 z2 z3 y0 y1 y2 y3 hw4
            have HZ := Lib.hid hz
            have HBZ := Lib.hid hbz
            clear hz hbz hb4 k0 k1 k2
            generalize (((w4.setCell ⟨wr.heap.size, 0, none⟩ (.int .i64 g)).setCell ⟨wr.heap.size, 1, none⟩ (.int .i64 t)).setCell ⟨wr.heap.size, 2, none⟩ (.int .i64 e)).setCell ⟨wr.heap.size, 3, none⟩ (.int .i64 k) = wz at *
            generalize wr.heap.size = ab2 at *
            have HAZ := Lib.hid ((HBZ.out.block ab AB.out.lt).trans AB.out)
            have a0 : wz.cell? ⟨ab, 0, none⟩ = some (.int .i64 g) := Bk.cell HAZ.out 0
            have a1 : wz.cell? ⟨ab, 1, none⟩ = some (.int .i64 t) := Bk.cell HAZ.out 1
            have a2 : wz.cell? ⟨ab, 2, none⟩ = some (.int .i64 e) := Bk.cell HAZ.out 2
            have a3 : wz.cell? ⟨ab, 3, none⟩ = some (.int .i64 k) := Bk.cell HAZ.out 3
            have r0 : wz.cell? ⟨ab2, 0, none⟩ = some (.int .i64 g) := HZ.out.cell 0
            have r1 : wz.cell? ⟨ab2, 1, none⟩ = some (.int .i64 t) := HZ.out.cell 1
            have r2 : wz.cell? ⟨ab2, 2, none⟩ = some (.int .i64 e) := HZ.out.cell 2
            have r3 : wz.cell? ⟨ab2, 3, none⟩ = some (.int .i64 k) := HZ.out.cell 3
            go_wp2_with fail
            refine (AW.out _ (ta.below HBZ.out ta.size)).mono ?_
            rintro e' w5 ⟨rfl, hb5⟩
            have FB := Lib.hid (FIN2.out _ (bwTrans HBZ.out hb5 HBZ.out.size))
            clear hb5
            go_wp2
            go_ret
            exact ⟨rfl, FB.out⟩
  · have h3 : (chkV yr ca ex un l != 0) = true := by simpa using h2
    generalize chkV yr ca ex un l = c at *
    generalize accV yr ca ex un l = a at *
    clear h2
    go_enter Tryd.func5, Tryd.ntmps5
    go_wp2_with fail
    rw [HW.out, HPB.out]
    refine (HF.out).mono ?_
    rintro e' w1 ⟨rfl, hb1⟩
    have t1 := t0.below hb1 t0.size
    go_wp2_with fail
    refine (AW.out _ (t1.grows (.of_alloc _ _))).mono ?_
    rintro e' w2 ⟨rfl, hb⟩
    have FB := Lib.hid (FIN.out _ (bwTrans hb1 (bwTrans (Grows.of_alloc w1 _).below hb (Grows.of_alloc w1 _).size) hb1.size))
    clear hb hb1
    go_wp2
    go_ret
    exact ⟨rfl, FB.out⟩
end Go.Proofs.YtkbpdbfldijeeaaDoor
