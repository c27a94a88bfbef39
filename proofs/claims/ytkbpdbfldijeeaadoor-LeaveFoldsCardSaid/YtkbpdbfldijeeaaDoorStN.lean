/- The merge where the right range is of one element. -/
import Derived.Test.YtkbpdbfldijeeaaDoorStM
namespace Go.Proofs.YtkbpdbfldijeeaaDoor
open Go.RowKit Go.Sort Go.BigFrame

theorem Two.last {D A L R Z : List El} {a m b N : Nat} (h : Two D A L R Z a m b N) {y : El} {i : Nat} (hy : D[m]? = some y) (h1 : b = m + 1) (hai : a ≤ i) (him : i ≤ m) (hlo : ∀ t, a ≤ t → t < i → ke D t ≤ y.1) (hhi : ∀ t, i ≤ t → t < m → y.1 < ke D t) :
    ∃ L1 L2, L = L1 ++ L2 ∧ a + L1.length = i ∧ i + L2.length = m ∧ D = (A ++ L1 ++ L2) ++ y :: Z ∧ mg lt L R = L1 ++ y :: L2 := by
  have hla := h.la
  have hlm := h.lm
  have hR : R = [y] := by
    have h2 := h.lb
    rcases R with _ | ⟨z, _ | ⟨z2, R⟩⟩
    · simp at h2; omega
    · have h3 := hy
      rw [h.eq, show A ++ L ++ [z] ++ Z = (A ++ L) ++ z :: Z by simp, get_mid _ _ _ (by rw [List.length_append]; omega)] at h3
      cases h3; rfl
    · simp at h2; omega
  have hc := h.cut i b hai (by omega) (fun i' j' _ h3 h4 h5 => by omega) (fun i' j' h2 h3 h4 h5 => by
    have : j' = m := by omega
    subst this
    rw [ke_some hy]; exact hhi _ h2 h3)
  refine ⟨L.take (i - a), L.drop (i - a), (List.take_append_drop _ _).symm, by rw [List.length_take]; omega, by rw [List.length_drop]; omega, ?_, ?_⟩
  · rw [List.append_assoc A, List.take_append_drop, h.eq, hR]; simp
  · have e : b - m = 1 := by omega
    have hc2 := h.cut i m hai (by omega) (fun i' j' h2 h3 h4 h5 => by
      have : j' = m := by omega
      subst this
      rw [ke_some hy]; exact hlo _ h2 h3) (fun i' j' _ h3 h4 h5 => by omega)
    rw [hc2, Nat.sub_self, List.take_zero, List.drop_zero, nil_mg, hR, mg_last]
    intro x hx
    obtain ⟨t, ht1, ht2, ht3⟩ := mem_drop_ke hx
    have h6 := hhi (a + t) (by omega) (by omega)
    rw [h.keL ht2, ht3] at h6
    exact decide_eq_true (by omega)

set_option maxHeartbeats 1000000 in
set_option maxRecDepth 100000 in
theorem symMerge_last (g cap N a m b : Nat) (D A L R Z : List El) (w : World) (h2 : Two D A L R Z a m b N) (hn : N ≤ 1000000) (h1 : b = m + 1) (ham : a + 1 < m) (hr : Row g cap D w) :
    Calls Tryd.prog 46 #[.slice (some ⟨g, 0, none⟩) N cap, .int .i64 a, .int .i64 m, .int .i64 b, .func (.func 23) #[] #[]] w fun e w' =>
      e = .returned (.tuple #[]) ∧ w.grownBy w' (some g) ∧ Row g cap (A ++ mg lt L R ++ Z) w' := by
  have hbN := h2.bn
  have w0 : IntKind.i64.wrap ((m : Int) - a) = (m : Int) - a := IntWalk.i64_in _ (by omega)
  have w0' : IntKind.i64.wrap ((b : Int) - m) = 1 := by rw [IntWalk.i64_in _ (by omega)]; omega
  obtain ⟨⟨xa, fa, aa, ba⟩, hxa⟩ : ∃ x, D[m]? = some x := ⟨_, List.getElem?_eq_getElem (by have := h2.len; omega)⟩
  have hmN : (m : Int) < (N : Int) := by omega
  have hb1 : ((m : Int) - a == 1) = false := by simp; omega
  have H1 := Lib.hid h1
  clear h1
  go_enter Tryd.func46, Tryd.ntmps46
  go_wp2
  go_loopw [14, 15] (fun iv jv wr => ∃ i j : Nat, a ≤ i ∧ i ≤ j ∧ j ≤ m ∧ iv = .int .i64 i ∧ jv = .int .i64 j ∧ w.grownBy wr (some g) ∧ Row g cap D wr ∧ (∀ t, a ≤ t → t < i → ke D t ≤ xa) ∧ (∀ t, j ≤ t → t < m → xa < ke D t)) (fun iv jv _ => (intOf jv).toNat - (intOf iv).toNat)
  case atStart => exact ⟨a, m, by omega, by omega, by omega, rfl, rfl, World.grownBy.refl _ _, hr, fun t h3 h4 => (by omega), fun t h3 h4 => (by omega)⟩
  case round =>
    obtain ⟨i, j, hai, hij, hjm, rfl, rfl, hg, hrr, hlo, hhi⟩ := hrel
    by_cases hlt : i < j
    · obtain ⟨h, hh⟩ : ∃ h, (i + j) / 2 = h := ⟨_, rfl⟩
      obtain ⟨⟨xh, fh, ah, bh⟩, hxh⟩ : ∃ x, D[h]? = some x := ⟨_, List.getElem?_eq_getElem (by have := h2.len; omega)⟩
      have wi : IntKind.i64.wrap ((i : Int) + j) = (i : Int) + j := IntWalk.i64_in _ (by omega)
      have hzz : ((i : Int) + j) / 2 = (h : Int) := by omega
      have hih : i ≤ h := by omega
      have hhj : h < j := by omega
      obtain ⟨pa, hpa⟩ : ∃ p, m * 2 = p := ⟨_, rfl⟩
      obtain ⟨ph, hph⟩ : ∃ p, h * 2 = p := ⟨_, rfl⟩
      have hgw := hrr.lt
      have c1 : ∀ n os, (Sort.grow (wr.drewN n) os).cell? ⟨g, pa, none⟩ = some (.int .i64 xa) := fun n os => cell_grown hgw (hpa ▸ Rw.cell hrr hxa (j := 0) rfl) n os
      have c2 : ∀ n os, (Sort.grow (wr.drewN n) os).cell? ⟨g, pa + 1, none⟩ = some (.func fa aa ba) := fun n os => cell_grown hgw (hpa ▸ Rw.cell hrr hxa (j := 1) rfl) n os
      have c3 : ∀ n os, (Sort.grow (wr.drewN n) os).cell? ⟨g, ph, none⟩ = some (.int .i64 xh) := fun n os => cell_grown hgw (hph ▸ Rw.cell hrr hxh (j := 0) rfl) n os
      have c4 : ∀ n os, (Sort.grow (wr.drewN n) os).cell? ⟨g, ph + 1, none⟩ = some (.func fh ah bh) := fun n os => cell_grown hgw (hph ▸ Rw.cell hrr hxh (j := 1) rfl) n os
      have hke := ke_some hxh
      have lo : ¬ xa < xh → ∀ t, a ≤ t → t < h + 1 → ke D t ≤ xa := fun h3 t h4 h5 => by
        have := h2.leL (i := t) (j := h) h4 (by omega) (by omega)
        have h6 : ke D h = xh := hke
        omega
      have hi : xa < xh → ∀ t, h ≤ t → t < m → xa < ke D t := fun h3 t h4 h5 => by
        have := h2.leL (i := h) (j := t) (by omega) h4 h5
        have h6 : ke D h = xh := hke
        omega
      have KK := Lib.hid (And.intro lo (And.intro hi (And.intro hlo hhi)))
      have HH := Lib.hid hh
      have HR := Lib.hid hrr
      clear lo hi hlo hhi hke hxh hrr hr hh
      go_wp2_with fail
      refine wp_region_quiet_grown (by kernel_rfl) (by kernel_rfl) ?_
      repeat (go_big_quiet_step (refine Calls.grown_of (cmpD xa xh fa fh aa ba ah bh _)))
      refine wpQuiet_nil ?_
      intro _ hw'
      obtain ⟨⟨nq, osq⟩, hw''⟩ := hw'
      subst hw''
      have hg3 := gGrow hg nq osq
      have hr4 : Row g cap _ _ := Rw.grow (HR.out.drewN nq) osq
      have HR4 := Lib.hid hr4
      clear hr4 c1 c2 c3 c4
      obtain ⟨hc1, hc2⟩ := cf_neg xa xh
      generalize cf xa xh = cc at *
      generalize Sort.grow (wr.drewN nq) osq = wq at *
      by_cases hlt2 : xa < xh
      · have hcc := hc1 hlt2
        have hd : decide (cc < 0) = true := decide_eq_true hcc
        clear hc1 hc2
        rw [hd]
        clear hd
        go_wp2
        exact ⟨⟨i, h, by omega, by omega, by omega, rfl, rfl, hg3, HR4.out, KK.out.2.2.1, KK.out.2.1 (by omega)⟩, by simp [intOf]; omega⟩
      · have hcc := hc2 hlt2
        have hd : decide (cc < 0) = false := decide_eq_false (by omega)
        clear hc1 hc2
        rw [hd]
        clear hd
        go_wp2
        exact ⟨⟨h + 1, j, by omega, by omega, by omega, by go_num, rfl, hg3, HR4.out, KK.out.1 (by omega), KK.out.2.2.2⟩, by simp [intOf]; omega⟩
    · have hij2 : i = j := by omega
      subst hij2
      obtain ⟨L1, L2, hL, hL1, hL2, hD, hM⟩ := h2.last hxa H1.out hai hjm hlo hhi
      have HM := Lib.hid (And.intro hM (And.intro hL (And.intro hL1 hL2)))
      have hla := h2.la
      have HA := Lib.hid hla
      rw [hD] at hrr
      have HR := Lib.hid hrr
      clear hD hrr hr hM hL hL1 hL2 hlo hhi hxa hla hlt
      obtain ⟨wo, rfl⟩ : ∃ wo : World, wo = wr := ⟨_, rfl⟩
      go_wp2
      go_loopw [17] (fun kv wr => ∃ k : Nat, i ≤ k ∧ k ≤ m ∧ kv = .int .i64 k ∧ w.grownBy wr (some g) ∧ ∃ P1 P2 : List El, L2 = P1 ++ P2 ∧ i + P1.length = k ∧ Row g cap ((A ++ L1 ++ P1) ++ (xa, fa, aa, ba) :: (P2 ++ Z)) wr) (fun kv _ => (intOf kv).toNat)
      case atStart => exact ⟨m, by omega, by omega, rfl, hg, L2, [], by simp, by have := HM.out; omega, by simpa using HR.out⟩
      case round =>
        obtain ⟨k, hik, hkm, rfl, hg2, P1, P2, hL2, hk, hr2⟩ := hrel
        have HK := Lib.hid hk
        have HL2 := Lib.hid hL2
        by_cases hki2 : i < k
        · obtain ⟨P1, ⟨xb, fb, ab, bb⟩, rfl⟩ : ∃ L z, P1 = L ++ [z] := by
            rcases List.eq_nil_or_concat P1 with h | ⟨L, z, h⟩
            · subst h; rw [List.length_nil] at hk; omega
            · exact ⟨L, z, by rw [h, List.concat_eq_append]⟩
          rw [List.length_append, List.length_singleton] at hk
          have hr3 : Row g cap ((A ++ L1 ++ P1) ++ (xb, fb, ab, bb) :: ([] ++ (xa, fa, aa, ba) :: (P2 ++ Z))) wr := by simpa using hr2
          have hAP : (A ++ L1 ++ P1).length = k - 1 := by rw [List.length_append, List.length_append]; have := HM.out; have := HA.out; omega
          have gy := get_mid (A ++ L1 ++ P1) ([] ++ (xa, fa, aa, ba) :: (P2 ++ Z)) (xb, fb, ab, bb) hAP
          have gx : ((A ++ L1 ++ P1) ++ (xb, fb, ab, bb) :: ([] ++ (xa, fa, aa, ba) :: (P2 ++ Z)))[k]? = some (xa, fa, aa, ba) := by
            have := get_mid ((A ++ L1 ++ P1) ++ [(xb, fb, ab, bb)]) (P2 ++ Z) (xa, fa, aa, ba) (n := k) (by rw [List.length_append, hAP, List.length_singleton]; omega)
            simpa using this
          obtain ⟨pa, hpa⟩ : ∃ p, k * 2 = p := ⟨_, rfl⟩
          obtain ⟨pb, hpb⟩ : ∃ p, (k - 1) * 2 = p := ⟨_, rfl⟩
          obtain ⟨c1, c2, f1, f2⟩ := Row.facts hr3 gx hpa
          obtain ⟨c3, c4, f3, f4⟩ := Row.facts hr3 gy hpb
          have hsw := Row.swapUp hr3 (i := k - 1) (j := k) hAP (by simp; omega)
          rw [hpa, hpb] at hsw
          have HS := Lib.hid hsw
          have n1 : ¬ pa = pb := by omega
          have n2 : ¬ pa + 1 = pb := by omega
          have n3 : ¬ pa = pb + 1 := by omega
          have n4 : ¬ pb = pa := by omega
          have n5 : ¬ pb + 1 = pa := by omega
          have n6 : ¬ pb = pa + 1 := by omega
          have w5 : IntKind.i64.wrap ((k : Int) - 1) = (k : Int) - 1 := IntWalk.i64_in _ (by omega)
          have w6 : ((k : Int) - 1).toNat = k - 1 := by omega
          have hkn : (k : Int) - 1 < (N : Int) := by omega
          have hkn0 : (0 : Int) ≤ (k : Int) - 1 := by omega
          have hkn2 : (k : Int) < (N : Int) := by omega
          have st1 := store_func (P := Tryd.prog) fa aa ba
          have st2 := store_func (P := Tryd.prog) fb ab bb
          have hz := gDrew (gTrans hg2 HS.out.1)
          have HZ := Lib.hid hz
          clear hsw hr2 hr3 hAP gx gy hz hk hL2
          go_wp2_with fail
          go_region
          all_goals go_wp2
          all_goals refine ⟨⟨k - 1, by omega, by omega, by go_num, HZ.out, P1, (xb, fb, ab, bb) :: P2, by rw [HL2.out]; simp, by have := HK.out; simp at this; omega, Rw.drew (w := (wr.setCells g pa (enc (xb, fb, ab, bb))).setCells g pb (enc (xa, fa, aa, ba))) (by simpa using HS.out.2)⟩, by simp [intOf]; omega⟩
        · have hP1 : P1 = [] := List.length_eq_zero_iff.1 (by omega)
          have hfin : Row g cap (A ++ mg lt L R ++ Z) wr := by
            rw [HM.out.1, HL2.out, hP1]
            simpa [hP1] using hr2
          have HF := Lib.hid hfin
          clear hfin hr2 hP1 hk hL2
          go_wp2
          refine bodyPost_ret (results_none rfl _ _ _) rfl ?_
          exact ⟨rfl, hg2, by have := HF.out; simpa using this⟩
end Go.Proofs.YtkbpdbfldijeeaaDoor
