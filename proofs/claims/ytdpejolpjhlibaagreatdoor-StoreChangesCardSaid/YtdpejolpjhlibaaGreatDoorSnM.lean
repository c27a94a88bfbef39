/- The merge of two sorted ranges that touch. -/
import Derived.Test.YtdpejolpjhlibaaGreatDoorSnI
namespace Go.Proofs.YtdpejolpjhlibaaGreatDoor
open Go.RowKit Go.Sort Go.BigFrame

/-- The key of element t. -/
def ke (l : List Kn) (t : Nat) : Int := (l[t]?.map (·.1)).getD 0
theorem ke_some {l : List Kn} {t : Nat} {x : Kn} (h : l[t]? = some x) : ke l t = x.1 := by simp [ke, h]
theorem ke_le {l : List Kn} (h : Srt lt l) {i j : Nat} (hij : i ≤ j) (hj : j < l.length) : ke l i ≤ ke l j := by
  obtain ⟨x, hx⟩ : ∃ x, l[i]? = some x := ⟨_, List.getElem?_eq_getElem (by omega)⟩
  obtain ⟨y, hy⟩ : ∃ x, l[j]? = some x := ⟨_, List.getElem?_eq_getElem hj⟩
  rw [ke_some hx, ke_some hy]
  rcases Nat.lt_or_eq_of_le hij with h1 | h1
  · have := List.pairwise_iff_getElem.1 h i j (by omega) hj h1
    rw [List.getElem?_eq_getElem (by omega)] at hx hy
    cases hx; cases hy
    simpa [lt] using this
  · subst h1; rw [hx] at hy; cases hy; exact Int.le_refl _
theorem ke_app {P Q S : List Kn} {p t : Nat} (hp : P.length = p) (ht : t < Q.length) : ke (P ++ Q ++ S) (p + t) = ke Q t := by
  subst hp
  unfold ke
  rw [List.append_assoc, List.getElem?_append_right (by omega), Nat.add_sub_cancel_left, List.getElem?_append_left ht]
theorem mem_take_ke {l : List Kn} {n : Nat} {y : Kn} (h : y ∈ l.take n) : ∃ t, t < n ∧ t < l.length ∧ ke l t = y.1 := by
  obtain ⟨t, ht, rfl⟩ := List.mem_iff_getElem.1 h
  rw [List.length_take] at ht
  refine ⟨t, by omega, by omega, ?_⟩
  rw [List.getElem_take]
  exact ke_some (List.getElem?_eq_getElem (by omega))
theorem mem_drop_ke {l : List Kn} {n : Nat} {y : Kn} (h : y ∈ l.drop n) : ∃ t, n ≤ t ∧ t < l.length ∧ ke l t = y.1 := by
  obtain ⟨t, ht, rfl⟩ := List.mem_iff_getElem.1 h
  rw [List.length_drop] at ht
  refine ⟨n + t, by omega, by omega, ?_⟩
  rw [List.getElem_drop]
  exact ke_some (List.getElem?_eq_getElem (by omega))

/-- Two sorted ranges that touch, in a row. -/
structure Two (D A L R Z : List Kn) (a m b N : Nat) : Prop where
  eq : D = A ++ L ++ R ++ Z
  len : D.length = N
  la : A.length = a
  lm : a + L.length = m
  lb : m + R.length = b
  sl : Srt lt L
  sr : Srt lt R
section
variable {D A L R Z : List Kn} {a m b N : Nat}
theorem Two.keL (h : Two D A L R Z a m b N) {t : Nat} (ht : t < L.length) : ke D (a + t) = ke L t := by
  rw [h.eq, List.append_assoc (A ++ L) R Z]
  exact ke_app h.la ht
theorem Two.keR (h : Two D A L R Z a m b N) {t : Nat} (ht : t < R.length) : ke D (m + t) = ke R t := by
  rw [h.eq]
  exact ke_app (by rw [List.length_append, h.la, h.lm]) ht
theorem Two.leL (h : Two D A L R Z a m b N) {i j : Nat} (hi : a ≤ i) (hij : i ≤ j) (hj : j < m) : ke D i ≤ ke D j := by
  have h1 := h.keL (t := i - a) (by have := h.lm; omega)
  have h2 := h.keL (t := j - a) (by have := h.lm; omega)
  rw [show a + (i - a) = i by omega] at h1
  rw [show a + (j - a) = j by omega] at h2
  rw [h1, h2]
  exact ke_le h.sl (by omega) (by have := h.lm; omega)
theorem Two.leR (h : Two D A L R Z a m b N) {i j : Nat} (hi : m ≤ i) (hij : i ≤ j) (hj : j < b) : ke D i ≤ ke D j := by
  have h1 := h.keR (t := i - m) (by have := h.lb; omega)
  have h2 := h.keR (t := j - m) (by have := h.lb; omega)
  rw [show m + (i - m) = i by omega] at h1
  rw [show m + (j - m) = j by omega] at h2
  rw [h1, h2]
  exact ke_le h.sr (by omega) (by have := h.lb; omega)
theorem Two.bn (h : Two D A L R Z a m b N) : b ≤ N := by
  have := congrArg List.length h.eq
  simp only [List.length_append] at this
  have h1 := h.len; have h2 := h.la; have h3 := h.lm; have h4 := h.lb
  omega
/-- Where both are cut so that the fronts lie ahead of the backs. -/
theorem Two.cut (h : Two D A L R Z a m b N) (s t : Nat) (ha : a ≤ s) (hm : m ≤ t) (h1 : ∀ i j, a ≤ i → i < s → t ≤ j → j < b → ke D i ≤ ke D j) (h2 : ∀ i j, s ≤ i → i < m → m ≤ j → j < t → ke D j < ke D i) :
    mg lt L R = mg lt (L.take (s - a)) (R.take (t - m)) ++ mg lt (L.drop (s - a)) (R.drop (t - m)) := by
  have hlm := h.lm
  have hlb := h.lb
  conv => lhs; rw [← List.take_append_drop (s - a) L, ← List.take_append_drop (t - m) R]
  refine mg_split _ _ _ _ (fun x hx y hy => ?_) (fun y hy x hx => ?_)
  · obtain ⟨i, hi1, hi2, hi3⟩ := mem_take_ke hx
    obtain ⟨j, hj1, hj2, hj3⟩ := mem_drop_ke hy
    have := h1 (a + i) (m + j) (by omega) (by omega) (by omega) (by omega)
    rw [h.keL hi2, h.keR hj2, hi3, hj3] at this
    exact decide_eq_false (by omega)
  · obtain ⟨i, hi1, hi2, hi3⟩ := mem_drop_ke hx
    obtain ⟨j, hj1, hj2, hj3⟩ := mem_take_ke hy
    have := h2 (a + i) (m + j) (by omega) (by omega) (by omega) (by omega)
    rw [h.keL hi2, h.keR hj2, hi3, hj3] at this
    exact decide_eq_true (by omega)
end

theorem mg_one {x : Kn} {R : List Kn} (h : ∀ y ∈ R, lt y x = false) : mg lt [x] R = x :: R := by
  have := mg_split (lt := lt) [x] [] [] R (fun l hl y hy => by rw [List.mem_singleton.1 hl]; exact h y hy) (fun y hy => by cases hy)
  simpa using this
theorem mg_last {y : Kn} {L : List Kn} (h : ∀ x ∈ L, lt y x = true) : mg lt L [y] = y :: L := by
  have := mg_split (lt := lt) [] L [y] [] (fun x hx => by cases hx) (fun x hx l hl => by rw [List.mem_singleton.1 hx]; exact h l hl)
  simpa using this
theorem Two.one {D A L R Z : List Kn} {a m b N : Nat} (h : Two D A L R Z a m b N) {x : Kn} {i : Nat} (hx : D[a]? = some x) (h1 : m = a + 1) (hmi : m ≤ i) (hib : i ≤ b) (hlo : ∀ t, m ≤ t → t < i → ke D t < x.1) (hhi : ∀ t, i ≤ t → t < b → x.1 ≤ ke D t) :
    ∃ R1 R2, R = R1 ++ R2 ∧ R1.length + m = i ∧ D = A ++ x :: (R1 ++ R2 ++ Z) ∧ mg lt L R = R1 ++ x :: R2 := by
  have hL : L = [x] := by
    have h2 := h.lm
    rcases L with _ | ⟨y, _ | ⟨z, L⟩⟩
    · simp at h2; omega
    · have h3 := hx
      rw [h.eq, show A ++ [y] ++ R ++ Z = A ++ y :: (R ++ Z) by simp, get_mid _ _ _ h.la] at h3
      cases h3; rfl
    · simp at h2; omega
  have hc := h.cut a i (Nat.le_refl _) hmi (fun _ _ h1 h2 => by omega) (fun i' j' h2 h3 h4 h5 => by
    have : i' = a := by omega
    subst this
    rw [ke_some hx]; exact hlo _ h4 h5)
  refine ⟨R.take (i - m), R.drop (i - m), (List.take_append_drop _ _).symm, by rw [List.length_take]; have := h.lb; omega, ?_, ?_⟩
  · rw [List.take_append_drop, h.eq, hL]; simp
  · rw [hc, hL, Nat.sub_self, List.take_zero, List.drop_zero, mg_nil, mg_one]
    intro y hy
    obtain ⟨t, ht1, ht2, ht3⟩ := mem_drop_ke hy
    have h6 := hhi (m + t) (by omega) (by have := h.lb; omega)
    rw [h.keR ht2, ht3] at h6
    exact decide_eq_false (by omega)

set_option maxHeartbeats 8000000 in
set_option maxRecDepth 100000 in
theorem symMerge_one (g cap N a m b : Nat) (D A L R Z : List Kn) (w : World) (h2 : Two D A L R Z a m b N) (hn : N ≤ 1000000) (h1 : m = a + 1) (hmb : m < b) (hr : RowK g cap D w) :
    Calls Tryz.prog 90 #[.slice (some ⟨g, 0, none⟩) N cap, .int .i64 a, .int .i64 m, .int .i64 b, .func (.func 38) #[] #[]] w fun e w' =>
      e = .returned (.tuple #[]) ∧ w.grownBy w' (some g) ∧ RowK g cap (A ++ mg lt L R ++ Z) w' := by
  have hbN := h2.bn
  have w0 : IntKind.i64.wrap ((m : Int) - a) = 1 := by rw [IntWalk.i64_in _ (by omega)]; omega
  obtain ⟨⟨xa, fa⟩, hxa⟩ : ∃ x, D[a]? = some x := ⟨_, List.getElem?_eq_getElem (by have := h2.len; omega)⟩
  have ham : a < m := by omega
  have haN : (a : Int) < (N : Int) := by omega
  have H1 := Lib.hid h1
  clear h1
  go_enter Tryz.func90, Tryz.ntmps90
  go_wp2
  go_loopw [10, 11] (fun iv jv wr => ∃ i j : Nat, m ≤ i ∧ i ≤ j ∧ j ≤ b ∧ iv = .int .i64 i ∧ jv = .int .i64 j ∧ w.grownBy wr (some g) ∧ RowK g cap D wr ∧ (∀ t, m ≤ t → t < i → ke D t < xa) ∧ (∀ t, j ≤ t → t < b → xa ≤ ke D t)) (fun iv jv _ => (intOf jv).toNat - (intOf iv).toNat)
  case atStart => exact ⟨m, b, by omega, by omega, by omega, rfl, rfl, World.grownBy.refl _ _, hr, fun t h3 h4 => (by omega), fun t h3 h4 => (by omega)⟩
  case round =>
    obtain ⟨i, j, hmi, hij, hjb, rfl, rfl, hg, hrr, hlo, hhi⟩ := hrel
    by_cases hlt : i < j
    · obtain ⟨h, hh⟩ : ∃ h, (i + j) / 2 = h := ⟨_, rfl⟩
      obtain ⟨⟨xh, fh⟩, hxh⟩ : ∃ x, D[h]? = some x := ⟨_, List.getElem?_eq_getElem (by have := h2.len; omega)⟩
      have wi : IntKind.i64.wrap ((i : Int) + j) = (i : Int) + j := IntWalk.i64_in _ (by omega)
      have hzz : ((i : Int) + j) / 2 = (h : Int) := by omega
      have hih : i ≤ h := by omega
      have hhj : h < j := by omega
      obtain ⟨pa, hpa⟩ : ∃ p, a * 9 = p := ⟨_, rfl⟩
      obtain ⟨ph, hph⟩ : ∃ p, h * 9 = p := ⟨_, rfl⟩
      have hgw := hrr.lt
      have c1 : ∀ n os, (Sort.grow (wr.drewN n) os).cell? ⟨g, pa, none⟩ = some (.int .i64 xa) := fun n os => cell_grown hgw (hpa ▸ Rw.cell hrr hxa (j := 0) rfl) n os
      have c2 : ∀ n os, (Sort.grow (wr.drewN n) os).cell? ⟨g, pa + 1, none⟩ = some (.int .u32 fa.id) := fun n os => cell_grown hgw (hpa ▸ Rw.cell hrr hxa (j := 1) rfl) n os
      have c3 : ∀ n os, (Sort.grow (wr.drewN n) os).cell? ⟨g, pa + 2, none⟩ = some (.int .u32 fa.pe) := fun n os => cell_grown hgw (hpa ▸ Rw.cell hrr hxa (j := 2) rfl) n os
      have c4 : ∀ n os, (Sort.grow (wr.drewN n) os).cell? ⟨g, pa + 3, none⟩ = some (.int .i64 fa.ki) := fun n os => cell_grown hgw (hpa ▸ Rw.cell hrr hxa (j := 3) rfl) n os
      have c5 : ∀ n os, (Sort.grow (wr.drewN n) os).cell? ⟨g, pa + 4, none⟩ = some (.int .i64 fa.fr) := fun n os => cell_grown hgw (hpa ▸ Rw.cell hrr hxa (j := 4) rfl) n os
      have c6 : ∀ n os, (Sort.grow (wr.drewN n) os).cell? ⟨g, pa + 5, none⟩ = some (.int .i64 fa.to) := fun n os => cell_grown hgw (hpa ▸ Rw.cell hrr hxa (j := 5) rfl) n os
      have c7 : ∀ n os, (Sort.grow (wr.drewN n) os).cell? ⟨g, pa + 6, none⟩ = some (.string fa.co) := fun n os => cell_grown hgw (hpa ▸ Rw.cell hrr hxa (j := 6) rfl) n os
      have c8 : ∀ n os, (Sort.grow (wr.drewN n) os).cell? ⟨g, pa + 7, none⟩ = some (.int .i64 fa.nu) := fun n os => cell_grown hgw (hpa ▸ Rw.cell hrr hxa (j := 7) rfl) n os
      have c9 : ∀ n os, (Sort.grow (wr.drewN n) os).cell? ⟨g, pa + 8, none⟩ = some (.string fa.tx) := fun n os => cell_grown hgw (hpa ▸ Rw.cell hrr hxa (j := 8) rfl) n os
      have c10 : ∀ n os, (Sort.grow (wr.drewN n) os).cell? ⟨g, ph, none⟩ = some (.int .i64 xh) := fun n os => cell_grown hgw (hph ▸ Rw.cell hrr hxh (j := 0) rfl) n os
      have c11 : ∀ n os, (Sort.grow (wr.drewN n) os).cell? ⟨g, ph + 1, none⟩ = some (.int .u32 fh.id) := fun n os => cell_grown hgw (hph ▸ Rw.cell hrr hxh (j := 1) rfl) n os
      have c12 : ∀ n os, (Sort.grow (wr.drewN n) os).cell? ⟨g, ph + 2, none⟩ = some (.int .u32 fh.pe) := fun n os => cell_grown hgw (hph ▸ Rw.cell hrr hxh (j := 2) rfl) n os
      have c13 : ∀ n os, (Sort.grow (wr.drewN n) os).cell? ⟨g, ph + 3, none⟩ = some (.int .i64 fh.ki) := fun n os => cell_grown hgw (hph ▸ Rw.cell hrr hxh (j := 3) rfl) n os
      have c14 : ∀ n os, (Sort.grow (wr.drewN n) os).cell? ⟨g, ph + 4, none⟩ = some (.int .i64 fh.fr) := fun n os => cell_grown hgw (hph ▸ Rw.cell hrr hxh (j := 4) rfl) n os
      have c15 : ∀ n os, (Sort.grow (wr.drewN n) os).cell? ⟨g, ph + 5, none⟩ = some (.int .i64 fh.to) := fun n os => cell_grown hgw (hph ▸ Rw.cell hrr hxh (j := 5) rfl) n os
      have c16 : ∀ n os, (Sort.grow (wr.drewN n) os).cell? ⟨g, ph + 6, none⟩ = some (.string fh.co) := fun n os => cell_grown hgw (hph ▸ Rw.cell hrr hxh (j := 6) rfl) n os
      have c17 : ∀ n os, (Sort.grow (wr.drewN n) os).cell? ⟨g, ph + 7, none⟩ = some (.int .i64 fh.nu) := fun n os => cell_grown hgw (hph ▸ Rw.cell hrr hxh (j := 7) rfl) n os
      have c18 : ∀ n os, (Sort.grow (wr.drewN n) os).cell? ⟨g, ph + 8, none⟩ = some (.string fh.tx) := fun n os => cell_grown hgw (hph ▸ Rw.cell hrr hxh (j := 8) rfl) n os
      have hke := ke_some hxh
      have lo : xh < xa → ∀ t, m ≤ t → t < h + 1 → ke D t < xa := fun h3 t h4 h5 => by
        have := h2.leR (i := t) (j := h) h4 (by omega) (by omega)
        have h6 : ke D h = xh := hke
        omega
      have hi : ¬ xh < xa → ∀ t, h ≤ t → t < b → xa ≤ ke D t := fun h3 t h4 h5 => by
        have := h2.leR (i := h) (j := t) (by omega) h4 h5
        have h6 : ke D h = xh := hke
        omega
      have KK := Lib.hid (And.intro lo (And.intro hi (And.intro hlo hhi)))
      have HH := Lib.hid hh
      have HR := Lib.hid hrr
      clear lo hi hlo hhi hke hxh hrr hr hh
      go_wp2_with fail
      refine wp_region_quiet_grown (by kernel_rfl) (by kernel_rfl) ?_
      repeat (go_big_quiet_step (refine Calls.grown_of (cmpK' xh xa fh fa _)))
      refine wpQuiet_nil ?_
      intro _ hw'
      obtain ⟨⟨nq, osq⟩, hw''⟩ := hw'
      subst hw''
      have hg3 := gGrow hg nq osq
      have hr4 : RowK g cap _ _ := Rw.grow (HR.out.drewN nq) osq
      have HR4 := Lib.hid hr4
      clear hr4 c1 c2 c3 c4 c5 c6 c7 c8 c9 c10 c11 c12 c13 c14 c15 c16 c17 c18
      obtain ⟨hc1, hc2⟩ := cf_neg xh xa
      generalize cf xh xa = cc at *
      generalize Sort.grow (wr.drewN nq) osq = wq at *
      by_cases hlt2 : xh < xa
      · have hcc := hc1 hlt2
        clear hc1 hc2
        go_wp2
        exact ⟨⟨h + 1, j, by omega, by omega, by omega, by go_num, rfl, hg3, HR4.out, KK.out.1 (by omega), KK.out.2.2.2⟩, by simp [intOf]; omega⟩
      · have hcc := hc2 hlt2
        clear hc1 hc2
        go_wp2
        exact ⟨⟨i, h, by omega, by omega, by omega, rfl, rfl, hg3, HR4.out, KK.out.2.2.1, KK.out.2.1 (by omega)⟩, by simp [intOf]; omega⟩
    · have hij2 : i = j := by omega
      subst hij2
      obtain ⟨R1, R2, hR, hRl, hD, hM⟩ := h2.one hxa H1.out hmi hjb hlo hhi
      have HM := Lib.hid (And.intro hM (And.intro hR hRl))
      have hla := h2.la
      have HA := Lib.hid hla
      have hN2 : ∀ P1 P2 : List Kn, R1 = P1 ++ P2 → (A ++ P1).length + P2.length + 1 ≤ N := fun P1 P2 h => by
        have h3 := h2.len
        rw [hD] at h3
        rw [h] at h3
        simp only [List.length_append, List.length_cons] at h3 ⊢
        omega
      have HN := Lib.hid hN2
      rw [hD] at hrr
      have HR := Lib.hid hrr
      clear hD hrr hr hM hR hRl hlo hhi hxa hla hN2 hlt
      have wi1 : IntKind.i64.wrap ((i : Int) - 1) = (i : Int) - 1 := IntWalk.i64_in _ (by omega)
      obtain ⟨wo, rfl⟩ : ∃ wo : World, wo = wr := ⟨_, rfl⟩
      go_wp2
      go_loopw [13] (fun kv wr => ∃ k : Nat, a ≤ k ∧ k < i ∧ kv = .int .i64 k ∧ w.grownBy wr (some g) ∧ ∃ P1 P2 : List Kn, R1 = P1 ++ P2 ∧ a + P1.length = k ∧ RowK g cap ((A ++ P1) ++ (xa, fa) :: (P2 ++ R2 ++ Z)) wr) (fun kv _ => i - (intOf kv).toNat)
      case atStart => exact ⟨a, by omega, by omega, rfl, hg, [], R1, rfl, by simp, by simpa using HR.out⟩
      case round =>
        obtain ⟨k, hak, hki, rfl, hg2, P1, P2, hR1, hk, hr2⟩ := hrel
        have HK := Lib.hid hk
        have HR1 := Lib.hid hR1
        have hlP : P1.length + P2.length + m = i := by
          have := HM.out.2.2; rw [hR1, List.length_append] at this; exact this
        by_cases hki2 : k + 1 < i
        · have hkk : (k : Int) < (i : Int) - 1 := by omega
          obtain ⟨⟨xb, fb⟩, P2, rfl⟩ := List.exists_cons_of_length_pos (show 0 < P2.length by have := H1.out; omega)
          have hr3 : RowK g cap ((A ++ P1) ++ (xa, fa) :: ([] ++ (xb, fb) :: (P2 ++ R2 ++ Z))) wr := by simpa using hr2
          have hAP : (A ++ P1).length = k := by rw [List.length_append, HA.out, hk]
          have gx := get_mid (A ++ P1) ([] ++ (xb, fb) :: (P2 ++ R2 ++ Z)) (xa, fa) hAP
          have gy : ((A ++ P1) ++ (xa, fa) :: ([] ++ (xb, fb) :: (P2 ++ R2 ++ Z)))[k + 1]? = some (xb, fb) := by
            have := get_mid ((A ++ P1) ++ [(xa, fa)]) (P2 ++ R2 ++ Z) (xb, fb) (n := k + 1) (by rw [List.length_append, hAP]; rfl)
            simpa using this
          obtain ⟨pa, hpa⟩ : ∃ p, k * 9 = p := ⟨_, rfl⟩
          obtain ⟨pb, hpb⟩ : ∃ p, (k + 1) * 9 = p := ⟨_, rfl⟩
          obtain ⟨wd, hwd⟩ : ∃ x, wr.drew = x := ⟨_, rfl⟩
          have hrd : RowK g cap ((A ++ P1) ++ (xa, fa) :: ([] ++ (xb, fb) :: (P2 ++ R2 ++ Z))) wd := by rw [← hwd]; exact hr3
          obtain ⟨w1, w2, hs⟩ := hrd.swp (i := k) (j := k + 1) hAP (by simp) hpa hpb
          have hgd : w.grownBy wd (some g) := by rw [← hwd]; exact gDrew hg2
          have sa0 : wd.cell? ⟨g, pa, none⟩ = some (.int .i64 xa) := hs.ca 0 _ rfl
          have sa1 : wd.cell? ⟨g, pa + 1, none⟩ = some (.int .u32 fa.id) := hs.ca 1 _ rfl
          have sa2 : wd.cell? ⟨g, pa + 2, none⟩ = some (.int .u32 fa.pe) := hs.ca 2 _ rfl
          have sa3 : wd.cell? ⟨g, pa + 3, none⟩ = some (.int .i64 fa.ki) := hs.ca 3 _ rfl
          have sa4 : wd.cell? ⟨g, pa + 4, none⟩ = some (.int .i64 fa.fr) := hs.ca 4 _ rfl
          have sa5 : wd.cell? ⟨g, pa + 5, none⟩ = some (.int .i64 fa.to) := hs.ca 5 _ rfl
          have sa6 : wd.cell? ⟨g, pa + 6, none⟩ = some (.string fa.co) := hs.ca 6 _ rfl
          have sa7 : wd.cell? ⟨g, pa + 7, none⟩ = some (.int .i64 fa.nu) := hs.ca 7 _ rfl
          have sa8 : wd.cell? ⟨g, pa + 8, none⟩ = some (.string fa.tx) := hs.ca 8 _ rfl
          have sb0 : wd.cell? ⟨g, pb, none⟩ = some (.int .i64 xb) := hs.cb 0 _ rfl
          have sb1 : wd.cell? ⟨g, pb + 1, none⟩ = some (.int .u32 fb.id) := hs.cb 1 _ rfl
          have sb2 : wd.cell? ⟨g, pb + 2, none⟩ = some (.int .u32 fb.pe) := hs.cb 2 _ rfl
          have sb3 : wd.cell? ⟨g, pb + 3, none⟩ = some (.int .i64 fb.ki) := hs.cb 3 _ rfl
          have sb4 : wd.cell? ⟨g, pb + 4, none⟩ = some (.int .i64 fb.fr) := hs.cb 4 _ rfl
          have sb5 : wd.cell? ⟨g, pb + 5, none⟩ = some (.int .i64 fb.to) := hs.cb 5 _ rfl
          have sb6 : wd.cell? ⟨g, pb + 6, none⟩ = some (.string fb.co) := hs.cb 6 _ rfl
          have sb7 : wd.cell? ⟨g, pb + 7, none⟩ = some (.int .i64 fb.nu) := hs.cb 7 _ rfl
          have sb8 : wd.cell? ⟨g, pb + 8, none⟩ = some (.string fb.tx) := hs.cb 8 _ rfl
          have fa0 : wd.frozen? ⟨g, pa, none⟩ = false := hs.fz _
          have fa1 : wd.frozen? ⟨g, pa + 1, none⟩ = false := hs.fz _
          have fa2 : wd.frozen? ⟨g, pa + 2, none⟩ = false := hs.fz _
          have fa3 : wd.frozen? ⟨g, pa + 3, none⟩ = false := hs.fz _
          have fa4 : wd.frozen? ⟨g, pa + 4, none⟩ = false := hs.fz _
          have fa5 : wd.frozen? ⟨g, pa + 5, none⟩ = false := hs.fz _
          have fa6 : wd.frozen? ⟨g, pa + 6, none⟩ = false := hs.fz _
          have fa7 : wd.frozen? ⟨g, pa + 7, none⟩ = false := hs.fz _
          have fa8 : wd.frozen? ⟨g, pa + 8, none⟩ = false := hs.fz _
          obtain ⟨zb0, sc0⟩ : ∃ u, w1.cell? ⟨g, pb, none⟩ = some u := hs.c1 0 (by omega)
          have fb0 : w1.frozen? ⟨g, pb, none⟩ = false := hs.f1 _
          obtain ⟨zb1, sc1⟩ : ∃ u, w1.cell? ⟨g, pb + 1, none⟩ = some u := hs.c1 1 (by omega)
          have fb1 : w1.frozen? ⟨g, pb + 1, none⟩ = false := hs.f1 _
          obtain ⟨zb2, sc2⟩ : ∃ u, w1.cell? ⟨g, pb + 2, none⟩ = some u := hs.c1 2 (by omega)
          have fb2 : w1.frozen? ⟨g, pb + 2, none⟩ = false := hs.f1 _
          obtain ⟨zb3, sc3⟩ : ∃ u, w1.cell? ⟨g, pb + 3, none⟩ = some u := hs.c1 3 (by omega)
          have fb3 : w1.frozen? ⟨g, pb + 3, none⟩ = false := hs.f1 _
          obtain ⟨zb4, sc4⟩ : ∃ u, w1.cell? ⟨g, pb + 4, none⟩ = some u := hs.c1 4 (by omega)
          have fb4 : w1.frozen? ⟨g, pb + 4, none⟩ = false := hs.f1 _
          obtain ⟨zb5, sc5⟩ : ∃ u, w1.cell? ⟨g, pb + 5, none⟩ = some u := hs.c1 5 (by omega)
          have fb5 : w1.frozen? ⟨g, pb + 5, none⟩ = false := hs.f1 _
          obtain ⟨zb6, sc6⟩ : ∃ u, w1.cell? ⟨g, pb + 6, none⟩ = some u := hs.c1 6 (by omega)
          have fb6 : w1.frozen? ⟨g, pb + 6, none⟩ = false := hs.f1 _
          obtain ⟨zb7, sc7⟩ : ∃ u, w1.cell? ⟨g, pb + 7, none⟩ = some u := hs.c1 7 (by omega)
          have fb7 : w1.frozen? ⟨g, pb + 7, none⟩ = false := hs.f1 _
          obtain ⟨zb8, sc8⟩ : ∃ u, w1.cell? ⟨g, pb + 8, none⟩ = some u := hs.c1 8 (by omega)
          have fb8 : w1.frozen? ⟨g, pb + 8, none⟩ = false := hs.f1 _
          have he1 : ((((((((wd.setCell ⟨g, pa, none⟩ (.int .i64 xb)).setCell ⟨g, pa + 1, none⟩ (.int .u32 fb.id)).setCell ⟨g, pa + 2, none⟩ (.int .u32 fb.pe)).setCell ⟨g, pa + 3, none⟩ (.int .i64 fb.ki)).setCell ⟨g, pa + 4, none⟩ (.int .i64 fb.fr)).setCell ⟨g, pa + 5, none⟩ (.int .i64 fb.to)).setCell ⟨g, pa + 6, none⟩ (.string fb.co)).setCell ⟨g, pa + 7, none⟩ (.int .i64 fb.nu)).setCell ⟨g, pa + 8, none⟩ (.string fb.tx) = w1 := hs.e1
          have he2 : ((((((((w1.setCell ⟨g, pb, none⟩ (.int .i64 xa)).setCell ⟨g, pb + 1, none⟩ (.int .u32 fa.id)).setCell ⟨g, pb + 2, none⟩ (.int .u32 fa.pe)).setCell ⟨g, pb + 3, none⟩ (.int .i64 fa.ki)).setCell ⟨g, pb + 4, none⟩ (.int .i64 fa.fr)).setCell ⟨g, pb + 5, none⟩ (.int .i64 fa.to)).setCell ⟨g, pb + 6, none⟩ (.string fa.co)).setCell ⟨g, pb + 7, none⟩ (.int .i64 fa.nu)).setCell ⟨g, pb + 8, none⟩ (.string fa.tx) = w2 := hs.e2
          have v5 : IntKind.i64.wrap ((k : Int) + 1) = (k : Int) + 1 := IntWalk.i64_in _ (by omega)
          have v6 : ((k : Int) + 1).toNat = k + 1 := by omega
          have hkn : (k : Int) + 1 < (N : Int) := by omega
          have HS := Lib.hid (And.intro (gTrans hgd hs.gr) hs.ro)
          clear hs hrd hgd hr2 hr3 hAP gx gy hk hR1 hlP
          go_wp2_with fail
          go_region
          all_goals
            go_wp2
            refine ⟨⟨k + 1, by omega, by omega, by go_num, HS.out.1, P1 ++ [(xb, fb)], P2, by rw [HR1.out]; simp, by have := HK.out; simp; omega, by simpa using HS.out.2⟩, by simp [intOf]; omega⟩
        · have hP2 : P2 = [] := List.length_eq_zero_iff.1 (by have := H1.out; omega)
          have hfin : RowK g cap (A ++ mg lt L R ++ Z) wr := by
            rw [HM.out.1, HR1.out, hP2]
            simpa [hP2] using hr2
          have HF := Lib.hid hfin
          have hkk : ¬ (k : Int) < (i : Int) - 1 := by omega
          clear hfin hr2 hP2 hlP hk hR1
          go_wp2
          refine bodyPost_ret (results_none rfl _ _ _) rfl ?_
          exact ⟨rfl, hg2, by have := HF.out; simpa using this⟩
end Go.Proofs.YtdpejolpjhlibaaGreatDoor
