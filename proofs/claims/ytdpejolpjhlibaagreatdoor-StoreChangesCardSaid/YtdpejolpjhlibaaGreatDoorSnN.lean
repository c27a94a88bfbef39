/- The merge where the right range is of one element. -/
import Derived.Test.YtdpejolpjhlibaaGreatDoorSnM
namespace Go.Proofs.YtdpejolpjhlibaaGreatDoor
open Go.RowKit Go.Sort Go.BigFrame

theorem Two.last {D A L R Z : List Kn} {a m b N : Nat} (h : Two D A L R Z a m b N) {y : Kn} {i : Nat} (hy : D[m]? = some y) (h1 : b = m + 1) (hai : a ≤ i) (him : i ≤ m) (hlo : ∀ t, a ≤ t → t < i → ke D t ≤ y.1) (hhi : ∀ t, i ≤ t → t < m → y.1 < ke D t) :
    ∃ L1 L2, L = L1 ++ L2 ∧ a + L1.length = i ∧ i + L2.length = m ∧ D = (A ++ L1 ++ L2) ++ y :: Z ∧ mg lt L R = L1 ++ y :: L2 := by
  have hla := h.la
  have hlm := h.lm
  have hR : R = [y] := by
    have h2 := h.lb
    rcases R with _ | ⟨z, _ | ⟨z2, R⟩⟩
    · simp at h2; omega
    · have h3 := hy
      rw [h.eq, show A ++ L ++ [z] ++ Z = (A ++ L) ++ z :: Z by simp, get_mid _ _ _ (by rw [List.length_append]; omega)] at h3
      cases h3; rfl
    · simp at h2; omega
  have hc := h.cut i b hai (by omega) (fun i' j' _ h3 h4 h5 => by omega) (fun i' j' h2 h3 h4 h5 => by
    have : j' = m := by omega
    subst this
    rw [ke_some hy]; exact hhi _ h2 h3)
  refine ⟨L.take (i - a), L.drop (i - a), (List.take_append_drop _ _).symm, by rw [List.length_take]; omega, by rw [List.length_drop]; omega, ?_, ?_⟩
  · rw [List.append_assoc A, List.take_append_drop, h.eq, hR]; simp
  · have e : b - m = 1 := by omega
    have hc2 := h.cut i m hai (by omega) (fun i' j' h2 h3 h4 h5 => by
      have : j' = m := by omega
      subst this
      rw [ke_some hy]; exact hlo _ h2 h3) (fun i' j' _ h3 h4 h5 => by omega)
    rw [hc2, Nat.sub_self, List.take_zero, List.drop_zero, nil_mg, hR, mg_last]
    intro x hx
    obtain ⟨t, ht1, ht2, ht3⟩ := mem_drop_ke hx
    have h6 := hhi (a + t) (by omega) (by omega)
    rw [h.keL ht2, ht3] at h6
    exact decide_eq_true (by omega)

set_option maxHeartbeats 8000000 in
set_option maxRecDepth 100000 in
theorem symMerge_last (g cap N a m b : Nat) (D A L R Z : List Kn) (w : World) (h2 : Two D A L R Z a m b N) (hn : N ≤ 1000000) (h1 : b = m + 1) (ham : a + 1 < m) (hr : RowK g cap D w) :
    Calls Tryz.prog 90 #[.slice (some ⟨g, 0, none⟩) N cap, .int .i64 a, .int .i64 m, .int .i64 b, .func (.func 38) #[] #[]] w fun e w' =>
      e = .returned (.tuple #[]) ∧ w.grownBy w' (some g) ∧ RowK g cap (A ++ mg lt L R ++ Z) w' := by
  have hbN := h2.bn
  have w0 : IntKind.i64.wrap ((m : Int) - a) = (m : Int) - a := IntWalk.i64_in _ (by omega)
  have w0' : IntKind.i64.wrap ((b : Int) - m) = 1 := by rw [IntWalk.i64_in _ (by omega)]; omega
  obtain ⟨⟨xa, fa⟩, hxa⟩ : ∃ x, D[m]? = some x := ⟨_, List.getElem?_eq_getElem (by have := h2.len; omega)⟩
  have hmN : (m : Int) < (N : Int) := by omega
  have hb1 : ((m : Int) - a == 1) = false := by simp; omega
  have H1 := Lib.hid h1
  clear h1
  go_enter Tryz.func90, Tryz.ntmps90
  go_wp2
  go_loopw [14, 15] (fun iv jv wr => ∃ i j : Nat, a ≤ i ∧ i ≤ j ∧ j ≤ m ∧ iv = .int .i64 i ∧ jv = .int .i64 j ∧ w.grownBy wr (some g) ∧ RowK g cap D wr ∧ (∀ t, a ≤ t → t < i → ke D t ≤ xa) ∧ (∀ t, j ≤ t → t < m → xa < ke D t)) (fun iv jv _ => (intOf jv).toNat - (intOf iv).toNat)
  case atStart => exact ⟨a, m, by omega, by omega, by omega, rfl, rfl, World.grownBy.refl _ _, hr, fun t h3 h4 => (by omega), fun t h3 h4 => (by omega)⟩
  case round =>
    obtain ⟨i, j, hai, hij, hjm, rfl, rfl, hg, hrr, hlo, hhi⟩ := hrel
    by_cases hlt : i < j
    · obtain ⟨h, hh⟩ : ∃ h, (i + j) / 2 = h := ⟨_, rfl⟩
      obtain ⟨⟨xh, fh⟩, hxh⟩ : ∃ x, D[h]? = some x := ⟨_, List.getElem?_eq_getElem (by have := h2.len; omega)⟩
      have wi : IntKind.i64.wrap ((i : Int) + j) = (i : Int) + j := IntWalk.i64_in _ (by omega)
      have hzz : ((i : Int) + j) / 2 = (h : Int) := by omega
      have hih : i ≤ h := by omega
      have hhj : h < j := by omega
      obtain ⟨pa, hpa⟩ : ∃ p, m * 9 = p := ⟨_, rfl⟩
      obtain ⟨ph, hph⟩ : ∃ p, h * 9 = p := ⟨_, rfl⟩
      have hgw := hrr.lt
      have c1 : ∀ n os, (Sort.grow (wr.drewN n) os).cell? ⟨g, pa, none⟩ = some (.int .i64 xa) := fun n os => cell_grown hgw (hpa ▸ Rw.cell hrr hxa (j := 0) rfl) n os
      have c2 : ∀ n os, (Sort.grow (wr.drewN n) os).cell? ⟨g, pa + 1, none⟩ = some (.int .u32 fa.id) := fun n os => cell_grown hgw (hpa ▸ Rw.cell hrr hxa (j := 1) rfl) n os
      have c3 : ∀ n os, (Sort.grow (wr.drewN n) os).cell? ⟨g, pa + 2, none⟩ = some (.int .u32 fa.pe) := fun n os => cell_grown hgw (hpa ▸ Rw.cell hrr hxa (j := 2) rfl) n os
      have c4 : ∀ n os, (Sort.grow (wr.drewN n) os).cell? ⟨g, pa + 3, none⟩ = some (.int .i64 fa.ki) := fun n os => cell_grown hgw (hpa ▸ Rw.cell hrr hxa (j := 3) rfl) n os
      have c5 : ∀ n os, (Sort.grow (wr.drewN n) os).cell? ⟨g, pa + 4, none⟩ = some (.int .i64 fa.fr) := fun n os => cell_grown hgw (hpa ▸ Rw.cell hrr hxa (j := 4) rfl) n os
      have c6 : ∀ n os, (Sort.grow (wr.drewN n) os).cell? ⟨g, pa + 5, none⟩ = some (.int .i64 fa.to) := fun n os => cell_grown hgw (hpa ▸ Rw.cell hrr hxa (j := 5) rfl) n os
      have c7 : ∀ n os, (Sort.grow (wr.drewN n) os).cell? ⟨g, pa + 6, none⟩ = some (.string fa.co) := fun n os => cell_grown hgw (hpa ▸ Rw.cell hrr hxa (j := 6) rfl) n os
      have c8 : ∀ n os, (Sort.grow (wr.drewN n) os).cell? ⟨g, pa + 7, none⟩ = some (.int .i64 fa.nu) := fun n os => cell_grown hgw (hpa ▸ Rw.cell hrr hxa (j := 7) rfl) n os
      have c9 : ∀ n os, (Sort.grow (wr.drewN n) os).cell? ⟨g, pa + 8, none⟩ = some (.string fa.tx) := fun n os => cell_grown hgw (hpa ▸ Rw.cell hrr hxa (j := 8) rfl) n os
      have c10 : ∀ n os, (Sort.grow (wr.drewN n) os).cell? ⟨g, ph, none⟩ = some (.int .i64 xh) := fun n os => cell_grown hgw (hph ▸ Rw.cell hrr hxh (j := 0) rfl) n os
      have c11 : ∀ n os, (Sort.grow (wr.drewN n) os).cell? ⟨g, ph + 1, none⟩ = some (.int .u32 fh.id) := fun n os => cell_grown hgw (hph ▸ Rw.cell hrr hxh (j := 1) rfl) n os
      have c12 : ∀ n os, (Sort.grow (wr.drewN n) os).cell? ⟨g, ph + 2, none⟩ = some (.int .u32 fh.pe) := fun n os => cell_grown hgw (hph ▸ Rw.cell hrr hxh (j := 2) rfl) n os
      have c13 : ∀ n os, (Sort.grow (wr.drewN n) os).cell? ⟨g, ph + 3, none⟩ = some (.int .i64 fh.ki) := fun n os => cell_grown hgw (hph ▸ Rw.cell hrr hxh (j := 3) rfl) n os
      have c14 : ∀ n os, (Sort.grow (wr.drewN n) os).cell? ⟨g, ph + 4, none⟩ = some (.int .i64 fh.fr) := fun n os => cell_grown hgw (hph ▸ Rw.cell hrr hxh (j := 4) rfl) n os
      have c15 : ∀ n os, (Sort.grow (wr.drewN n) os).cell? ⟨g, ph + 5, none⟩ = some (.int .i64 fh.to) := fun n os => cell_grown hgw (hph ▸ Rw.cell hrr hxh (j := 5) rfl) n os
      have c16 : ∀ n os, (Sort.grow (wr.drewN n) os).cell? ⟨g, ph + 6, none⟩ = some (.string fh.co) := fun n os => cell_grown hgw (hph ▸ Rw.cell hrr hxh (j := 6) rfl) n os
      have c17 : ∀ n os, (Sort.grow (wr.drewN n) os).cell? ⟨g, ph + 7, none⟩ = some (.int .i64 fh.nu) := fun n os => cell_grown hgw (hph ▸ Rw.cell hrr hxh (j := 7) rfl) n os
      have c18 : ∀ n os, (Sort.grow (wr.drewN n) os).cell? ⟨g, ph + 8, none⟩ = some (.string fh.tx) := fun n os => cell_grown hgw (hph ▸ Rw.cell hrr hxh (j := 8) rfl) n os
      have hke := ke_some hxh
      have lo : ¬ xa < xh → ∀ t, a ≤ t → t < h + 1 → ke D t ≤ xa := fun h3 t h4 h5 => by
        have := h2.leL (i := t) (j := h) h4 (by omega) (by omega)
        have h6 : ke D h = xh := hke
        omega
      have hi : xa < xh → ∀ t, h ≤ t → t < m → xa < ke D t := fun h3 t h4 h5 => by
        have := h2.leL (i := h) (j := t) (by omega) h4 h5
        have h6 : ke D h = xh := hke
        omega
      have KK := Lib.hid (And.intro lo (And.intro hi (And.intro hlo hhi)))
      have HH := Lib.hid hh
      have HR := Lib.hid hrr
      clear lo hi hlo hhi hke hxh hrr hr hh
      go_wp2_with fail
      refine wp_region_quiet_grown (by kernel_rfl) (by kernel_rfl) ?_
      repeat (go_big_quiet_step (refine Calls.grown_of (cmpK' xa xh fa fh _)))
      refine wpQuiet_nil ?_
      intro _ hw'
      obtain ⟨⟨nq, osq⟩, hw''⟩ := hw'
      subst hw''
      have hg3 := gGrow hg nq osq
      have hr4 : RowK g cap _ _ := Rw.grow (HR.out.drewN nq) osq
      have HR4 := Lib.hid hr4
      clear hr4 c1 c2 c3 c4 c5 c6 c7 c8 c9 c10 c11 c12 c13 c14 c15 c16 c17 c18
      obtain ⟨hc1, hc2⟩ := cf_neg xa xh
      generalize cf xa xh = cc at *
      generalize Sort.grow (wr.drewN nq) osq = wq at *
      by_cases hlt2 : xa < xh
      · have hcc := hc1 hlt2
        have hd : decide (cc < 0) = true := decide_eq_true hcc
        clear hc1 hc2
        rw [hd]
        clear hd
        go_wp2
        exact ⟨⟨i, h, by omega, by omega, by omega, rfl, rfl, hg3, HR4.out, KK.out.2.2.1, KK.out.2.1 (by omega)⟩, by simp [intOf]; omega⟩
      · have hcc := hc2 hlt2
        have hd : decide (cc < 0) = false := decide_eq_false (by omega)
        clear hc1 hc2
        rw [hd]
        clear hd
        go_wp2
        exact ⟨⟨h + 1, j, by omega, by omega, by omega, by go_num, rfl, hg3, HR4.out, KK.out.1 (by omega), KK.out.2.2.2⟩, by simp [intOf]; omega⟩
    · have hij2 : i = j := by omega
      subst hij2
      obtain ⟨L1, L2, hL, hL1, hL2, hD, hM⟩ := h2.last hxa H1.out hai hjm hlo hhi
      have HM := Lib.hid (And.intro hM (And.intro hL (And.intro hL1 hL2)))
      have hla := h2.la
      have HA := Lib.hid hla
      rw [hD] at hrr
      have HR := Lib.hid hrr
      clear hD hrr hr hM hL hL1 hL2 hlo hhi hxa hla hlt
      obtain ⟨wo, rfl⟩ : ∃ wo : World, wo = wr := ⟨_, rfl⟩
      go_wp2
      go_loopw [17] (fun kv wr => ∃ k : Nat, i ≤ k ∧ k ≤ m ∧ kv = .int .i64 k ∧ w.grownBy wr (some g) ∧ ∃ P1 P2 : List Kn, L2 = P1 ++ P2 ∧ i + P1.length = k ∧ RowK g cap ((A ++ L1 ++ P1) ++ (xa, fa) :: (P2 ++ Z)) wr) (fun kv _ => (intOf kv).toNat)
      case atStart => exact ⟨m, by omega, by omega, rfl, hg, L2, [], by simp, by have := HM.out; omega, by simpa using HR.out⟩
      case round =>
        obtain ⟨k, hik, hkm, rfl, hg2, P1, P2, hL2, hk, hr2⟩ := hrel
        have HK := Lib.hid hk
        have HL2 := Lib.hid hL2
        by_cases hki2 : i < k
        · obtain ⟨P1, ⟨xb, fb⟩, rfl⟩ : ∃ L z, P1 = L ++ [z] := by
            rcases List.eq_nil_or_concat P1 with h | ⟨L, z, h⟩
            · subst h; rw [List.length_nil] at hk; omega
            · exact ⟨L, z, by rw [h, List.concat_eq_append]⟩
          rw [List.length_append, List.length_singleton] at hk
          have hr3 : RowK g cap ((A ++ L1 ++ P1) ++ (xb, fb) :: ([] ++ (xa, fa) :: (P2 ++ Z))) wr := by simpa using hr2
          have hAP : (A ++ L1 ++ P1).length = k - 1 := by rw [List.length_append, List.length_append]; have := HM.out; have := HA.out; omega
          have gy := get_mid (A ++ L1 ++ P1) ([] ++ (xa, fa) :: (P2 ++ Z)) (xb, fb) hAP
          have gx : ((A ++ L1 ++ P1) ++ (xb, fb) :: ([] ++ (xa, fa) :: (P2 ++ Z)))[k]? = some (xa, fa) := by
            have := get_mid ((A ++ L1 ++ P1) ++ [(xb, fb)]) (P2 ++ Z) (xa, fa) (n := k) (by rw [List.length_append, hAP, List.length_singleton]; omega)
            simpa using this
          obtain ⟨pa, hpa⟩ : ∃ p, k * 9 = p := ⟨_, rfl⟩
          obtain ⟨pb, hpb⟩ : ∃ p, (k - 1) * 9 = p := ⟨_, rfl⟩
          obtain ⟨wd, hwd⟩ : ∃ x, wr.drew = x := ⟨_, rfl⟩
          have hrd : RowK g cap ((A ++ L1 ++ P1) ++ (xb, fb) :: ([] ++ (xa, fa) :: (P2 ++ Z))) wd := by rw [← hwd]; exact hr3
          obtain ⟨w1, w2, hs⟩ := hrd.swpUp (i := k - 1) (j := k) hAP (by simp; omega) hpa hpb
          have hgd : w.grownBy wd (some g) := by rw [← hwd]; exact gDrew hg2
          have sa0 : wd.cell? ⟨g, pa, none⟩ = some (.int .i64 xa) := hs.ca 0 _ rfl
          have sa1 : wd.cell? ⟨g, pa + 1, none⟩ = some (.int .u32 fa.id) := hs.ca 1 _ rfl
          have sa2 : wd.cell? ⟨g, pa + 2, none⟩ = some (.int .u32 fa.pe) := hs.ca 2 _ rfl
          have sa3 : wd.cell? ⟨g, pa + 3, none⟩ = some (.int .i64 fa.ki) := hs.ca 3 _ rfl
          have sa4 : wd.cell? ⟨g, pa + 4, none⟩ = some (.int .i64 fa.fr) := hs.ca 4 _ rfl
          have sa5 : wd.cell? ⟨g, pa + 5, none⟩ = some (.int .i64 fa.to) := hs.ca 5 _ rfl
          have sa6 : wd.cell? ⟨g, pa + 6, none⟩ = some (.string fa.co) := hs.ca 6 _ rfl
          have sa7 : wd.cell? ⟨g, pa + 7, none⟩ = some (.int .i64 fa.nu) := hs.ca 7 _ rfl
          have sa8 : wd.cell? ⟨g, pa + 8, none⟩ = some (.string fa.tx) := hs.ca 8 _ rfl
          have sb0 : wd.cell? ⟨g, pb, none⟩ = some (.int .i64 xb) := hs.cb 0 _ rfl
          have sb1 : wd.cell? ⟨g, pb + 1, none⟩ = some (.int .u32 fb.id) := hs.cb 1 _ rfl
          have sb2 : wd.cell? ⟨g, pb + 2, none⟩ = some (.int .u32 fb.pe) := hs.cb 2 _ rfl
          have sb3 : wd.cell? ⟨g, pb + 3, none⟩ = some (.int .i64 fb.ki) := hs.cb 3 _ rfl
          have sb4 : wd.cell? ⟨g, pb + 4, none⟩ = some (.int .i64 fb.fr) := hs.cb 4 _ rfl
          have sb5 : wd.cell? ⟨g, pb + 5, none⟩ = some (.int .i64 fb.to) := hs.cb 5 _ rfl
          have sb6 : wd.cell? ⟨g, pb + 6, none⟩ = some (.string fb.co) := hs.cb 6 _ rfl
          have sb7 : wd.cell? ⟨g, pb + 7, none⟩ = some (.int .i64 fb.nu) := hs.cb 7 _ rfl
          have sb8 : wd.cell? ⟨g, pb + 8, none⟩ = some (.string fb.tx) := hs.cb 8 _ rfl
          have fa0 : wd.frozen? ⟨g, pa, none⟩ = false := hs.fz _
          have fa1 : wd.frozen? ⟨g, pa + 1, none⟩ = false := hs.fz _
          have fa2 : wd.frozen? ⟨g, pa + 2, none⟩ = false := hs.fz _
          have fa3 : wd.frozen? ⟨g, pa + 3, none⟩ = false := hs.fz _
          have fa4 : wd.frozen? ⟨g, pa + 4, none⟩ = false := hs.fz _
          have fa5 : wd.frozen? ⟨g, pa + 5, none⟩ = false := hs.fz _
          have fa6 : wd.frozen? ⟨g, pa + 6, none⟩ = false := hs.fz _
          have fa7 : wd.frozen? ⟨g, pa + 7, none⟩ = false := hs.fz _
          have fa8 : wd.frozen? ⟨g, pa + 8, none⟩ = false := hs.fz _
          obtain ⟨zb0, sc0⟩ : ∃ u, w1.cell? ⟨g, pb, none⟩ = some u := hs.c1 0 (by omega)
          have fb0 : w1.frozen? ⟨g, pb, none⟩ = false := hs.f1 _
          obtain ⟨zb1, sc1⟩ : ∃ u, w1.cell? ⟨g, pb + 1, none⟩ = some u := hs.c1 1 (by omega)
          have fb1 : w1.frozen? ⟨g, pb + 1, none⟩ = false := hs.f1 _
          obtain ⟨zb2, sc2⟩ : ∃ u, w1.cell? ⟨g, pb + 2, none⟩ = some u := hs.c1 2 (by omega)
          have fb2 : w1.frozen? ⟨g, pb + 2, none⟩ = false := hs.f1 _
          obtain ⟨zb3, sc3⟩ : ∃ u, w1.cell? ⟨g, pb + 3, none⟩ = some u := hs.c1 3 (by omega)
          have fb3 : w1.frozen? ⟨g, pb + 3, none⟩ = false := hs.f1 _
          obtain ⟨zb4, sc4⟩ : ∃ u, w1.cell? ⟨g, pb + 4, none⟩ = some u := hs.c1 4 (by omega)
          have fb4 : w1.frozen? ⟨g, pb + 4, none⟩ = false := hs.f1 _
          obtain ⟨zb5, sc5⟩ : ∃ u, w1.cell? ⟨g, pb + 5, none⟩ = some u := hs.c1 5 (by omega)
          have fb5 : w1.frozen? ⟨g, pb + 5, none⟩ = false := hs.f1 _
          obtain ⟨zb6, sc6⟩ : ∃ u, w1.cell? ⟨g, pb + 6, none⟩ = some u := hs.c1 6 (by omega)
          have fb6 : w1.frozen? ⟨g, pb + 6, none⟩ = false := hs.f1 _
          obtain ⟨zb7, sc7⟩ : ∃ u, w1.cell? ⟨g, pb + 7, none⟩ = some u := hs.c1 7 (by omega)
          have fb7 : w1.frozen? ⟨g, pb + 7, none⟩ = false := hs.f1 _
          obtain ⟨zb8, sc8⟩ : ∃ u, w1.cell? ⟨g, pb + 8, none⟩ = some u := hs.c1 8 (by omega)
          have fb8 : w1.frozen? ⟨g, pb + 8, none⟩ = false := hs.f1 _
          have he1 : ((((((((wd.setCell ⟨g, pa, none⟩ (.int .i64 xb)).setCell ⟨g, pa + 1, none⟩ (.int .u32 fb.id)).setCell ⟨g, pa + 2, none⟩ (.int .u32 fb.pe)).setCell ⟨g, pa + 3, none⟩ (.int .i64 fb.ki)).setCell ⟨g, pa + 4, none⟩ (.int .i64 fb.fr)).setCell ⟨g, pa + 5, none⟩ (.int .i64 fb.to)).setCell ⟨g, pa + 6, none⟩ (.string fb.co)).setCell ⟨g, pa + 7, none⟩ (.int .i64 fb.nu)).setCell ⟨g, pa + 8, none⟩ (.string fb.tx) = w1 := hs.e1
          have he2 : ((((((((w1.setCell ⟨g, pb, none⟩ (.int .i64 xa)).setCell ⟨g, pb + 1, none⟩ (.int .u32 fa.id)).setCell ⟨g, pb + 2, none⟩ (.int .u32 fa.pe)).setCell ⟨g, pb + 3, none⟩ (.int .i64 fa.ki)).setCell ⟨g, pb + 4, none⟩ (.int .i64 fa.fr)).setCell ⟨g, pb + 5, none⟩ (.int .i64 fa.to)).setCell ⟨g, pb + 6, none⟩ (.string fa.co)).setCell ⟨g, pb + 7, none⟩ (.int .i64 fa.nu)).setCell ⟨g, pb + 8, none⟩ (.string fa.tx) = w2 := hs.e2
          have v5 : IntKind.i64.wrap ((k : Int) - 1) = (k : Int) - 1 := IntWalk.i64_in _ (by omega)
          have v6 : ((k : Int) - 1).toNat = k - 1 := by omega
          have hkn : (k : Int) - 1 < (N : Int) := by omega
          have hkn0 : (0 : Int) ≤ (k : Int) - 1 := by omega
          have hkn2 : (k : Int) < (N : Int) := by omega
          have HS := Lib.hid (And.intro (gTrans hgd hs.gr) hs.ro)
          clear hs hrd hgd hr2 hr3 hAP gx gy hk hL2
          go_wp2_with fail
          go_region
          all_goals
            go_wp2
            refine ⟨⟨k - 1, by omega, by omega, by go_num, HS.out.1, P1, (xb, fb) :: P2, by rw [HL2.out]; simp, by have := HK.out; simp at this; omega, by simpa using HS.out.2⟩, by simp [intOf]; omega⟩
        · have hP1 : P1 = [] := List.length_eq_zero_iff.1 (by omega)
          have hfin : RowK g cap (A ++ mg lt L R ++ Z) wr := by
            rw [HM.out.1, HL2.out, hP1]
            simpa [hP1] using hr2
          have HF := Lib.hid hfin
          clear hfin hr2 hP1 hk hL2
          go_wp2
          refine bodyPost_ret (results_none rfl _ _ _) rfl ?_
          exact ⟨rfl, hg2, by have := HF.out; simpa using this⟩
end Go.Proofs.YtdpejolpjhlibaaGreatDoor
