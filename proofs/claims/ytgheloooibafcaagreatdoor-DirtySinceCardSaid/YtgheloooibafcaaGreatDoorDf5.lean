import Derived.Test.YtgheloooibafcaaGreatDoorDf4
import Derived.Test.YtgheloooibafcaaGreatDoorDr1
/- The walk of DirtySince. -/
namespace Go.Proofs.YtgheloooibafcaaGreatDoor
open Go.RowKit Go.Sort

abbrev OwnR (B : Nat) (v : Value) (l : List Fa) (w : World) : Prop := Own encF 8 37 B v l w
theorem refInfo : (Tryz.prog.info? 37).map (fun i => (i.zero, i.size, i.bytes)) = some (some (.agg #[.int .u32 0, .int .u32 0, .int .i64 0, .int .i64 0, .int .i64 0, .string ⟨#[]⟩, .int .i64 0, .string ⟨#[]⟩]), 8, 72) := by kernel_rfl
theorem newsR (f : Fa) (w : World) : ∀ j u, (encF f)[j]? = some u → (w.alloc (.cells #[.int .u32 f.id, .int .u32 f.pe, .int .i64 f.ki, .int .i64 f.fr, .int .i64 f.to, .string f.co, .int .i64 f.nu, .string f.tx] 37)).cell? ⟨w.heap.size, j, none⟩ = some u := by
  intro j u hu
  have h := Bk.new w 37 #[.int .u32 f.id, .int .u32 f.pe, .int .i64 f.ki, .int .i64 f.fr, .int .i64 f.to, .string f.co, .int .i64 f.nu, .string f.tx]
  rw [h.cell]
  simpa [encF] using hu
theorem dpL_at {X Y : List Fa} {i : Nat} {p : Int} (h : (dpL X Y)[i]? = some p) : (p ∈ personsL X ∨ p ∈ personsL Y) ∧ (sinceL p (changedL X Y)).2 = true := mem_dpL.1 (List.mem_of_getElem? h)
theorem dpL_up {X Y : List Fa} {i : Nat} {p q : Int} (h : (dpL X Y)[i]? = some p) (k : (dpL X Y)[i + 1]? = some q) : p < q := by
  have hs := sorted_dpL X Y
  rw [List.pairwise_iff_getElem] at hs
  obtain ⟨h1, e1⟩ := List.getElem?_eq_some_iff.1 h
  obtain ⟨h2, e2⟩ := List.getElem?_eq_some_iff.1 k
  rw [← e1, ← e2]
  exact hs i (i + 1) h1 h2 (by omega)
theorem dpL_len (X Y : List Fa) : (dpL X Y).length ≤ X.length + Y.length := by
  unfold dpL
  refine Nat.le_trans (List.length_filter_le _ _) ?_
  have h1 := foldU_len (personsL X ++ personsL Y) []
  have h2 := personsL_len X
  have h3 := personsL_len Y
  rw [List.length_append] at h1
  simp only [List.length_nil] at h1
  omega
theorem dpL_has (X Y : List Fa) (p : Int) : decide (p ∈ dpL X Y) = ((sinceL p (changedL X Y)).2 && (decide (p ∈ personsL X) || decide (p ∈ personsL Y))) := by
  by_cases h : p ∈ dpL X Y
  · obtain ⟨h1, h2⟩ := mem_dpL.1 h
    rw [decide_eq_true h, h2]
    rcases h1 with h1 | h1 <;> simp [h1]
  · rw [decide_eq_false h]
    cases hs : (sinceL p (changedL X Y)).2 with
    | false => rfl
    | true =>
      have h1 : p ∉ personsL X := fun k => h (mem_dpL.2 ⟨.inl k, hs⟩)
      have h2 : p ∉ personsL Y := fun k => h (mem_dpL.2 ⟨.inr k, hs⟩)
      simp [h1, h2]
theorem vpersV {w0 : World} {A : Option Addr} {ca : Nat} {X : List Fa} (hX : Vw w0 A ca X) {B : Nat} (W : World) (hW : Below w0.heap.size w0 W) (hB : B ≤ W.heap.size) :
    Calls Tryz.prog 26 #[.agg #[.slice A X.length X.length]] W fun e w' => ∃ v, e = .returned v ∧ Below W.heap.size W w' ∧ OwnU B v (personsL X) w' :=
  (vi_Persons X A X.length W (by have := hX.len; omega) (hX.sl.below hW)).mono fun e w' ⟨⟨v, he, ho⟩, hb⟩ => ⟨v, he, hb, ownU_base ho hB⟩
set_option maxHeartbeats 8000000 in
set_option maxRecDepth 100000 in
theorem lw_DSince (l m : List Fa) (A B : Option Addr) (ca cb : Nat) (p : Int) (w : World) (hl : l.length ≤ 9223372036854775807) (hm : m.length ≤ 9223372036854775807) (fl : ∀ f ∈ l, FitW f) (fm : ∀ f ∈ m, FitW f) (hL : SlF w A l) (hM : SlF w B m) (hT : Tb w) (hC : Tab w) :
    Calls Tryz.prog 3 #[.slice A l.length ca, .slice B m.length cb, .int .u32 p] w fun e w' => e = .returned (.bool true) ∧ Below w.heap.size w w' := by
  have HAW := Lib.hid (la_awake32 w hT hC)
  have HW : Hid (∀ W, Below w.heap.size w W → Tb W ∧ SlF W A l ∧ SlF W B m) := Lib.hid fun W hW => ⟨hT.below hW, hL.below hW, hM.below hW⟩
  have HFL := Lib.hid fl
  have HFM := Lib.hid fm
  have HBl := Lib.hid hl
  have HBm := Lib.hid hm
  clear hL hM hT hC fl fm hl hm
  go_enter Tryz.func3, Tryz.ntmps3
  go_wp2_with fail
  refine HAW.out.mono ?_
  rintro e w3 ⟨rfl, hb3⟩
  have HB3 : Hid (Below w.heap.size w w3) := Lib.hid hb3
  clear hb3 HAW
  go_wp2_with fail
  refine (la_small l A ca w3 HBl.out (HW.out _ HB3.out).2.1).mono ?_
  rintro e w4 ⟨rfl, hb4⟩
  have HB4 := Lib.hid (bTrans HB3.out hb4)
  obtain ⟨s1, hs1⟩ : ∃ z, smallB l = z := ⟨_, rfl⟩
  rw [hs1]
  have HS1 := Lib.hid hs1
  clear hb4 hs1
  cases s1 with
  | false =>
    go_wp2
    go_ret
    exact ⟨rfl, HB4.out⟩
  | true =>
  go_wp2_with fail
  refine (la_small m B cb w4 HBm.out (HW.out _ HB4.out).2.2).mono ?_
  rintro e w5 ⟨rfl, hb5⟩
  have HB5 := Lib.hid (bTrans HB4.out hb5)
  obtain ⟨s2, hs2⟩ : ∃ z, smallB m = z := ⟨_, rfl⟩
  rw [hs2]
  have HS2 := Lib.hid hs2
  clear hb5 hs2
  cases s2 with
  | false =>
    go_wp2
    go_ret
    exact ⟨rfl, HB5.out⟩
  | true =>
  go_wp2_with fail
  refine (la_toldV l A ca w5 HS1.out HFL.out (HW.out _ HB5.out).2.1 (HW.out _ HB5.out).1).mono ?_
  rintro e w7 ⟨⟨A1, c1, rfl, hv7, hl1⟩, hb7⟩
  have HB7 := Lib.hid (bTrans HB5.out hb7)
  have HV7 := Lib.hid hv7
  clear hb7 hv7
  go_wp2_with fail
  refine (la_toldV m B cb w7 HS2.out HFM.out (HW.out _ HB7.out).2.2 (HW.out _ HB7.out).1).mono ?_
  rintro e w9 ⟨⟨A2, c2, rfl, hv9, hl2⟩, hb9⟩
  have HB9 := Lib.hid (bTrans HB7.out hb9)
  obtain ⟨L1, hL1⟩ : ∃ z, tellL [] l = z := ⟨_, rfl⟩
  obtain ⟨L2, hL2⟩ : ∃ z, tellL [] m = z := ⟨_, rfl⟩
  have V1 := Lib.hid (HV7.out.below hb9)
  have V2 := Lib.hid hv9
  rw [hL1] at V1 hl1
  rw [hL2] at V2 hl2
  rw [hL1, hL2]
  clear hb9 hv9 HV7 hL1 hL2 HS1 HS2 HFL HFM HBl HBm
  obtain ⟨sb, hsb⟩ : ∃ x, w9.heap.size = x := ⟨_, rfl⟩
  obtain ⟨tb, htb⟩ : ∃ x, sb + 1 = x := ⟨_, rfl⟩
  obtain ⟨wa, hwa⟩ : ∃ x, (w9.alloc (.cells #[.slice A1 L1.length c1] 27)).alloc (.cells #[.slice A2 L2.length c2] 27) = x := ⟨_, rfl⟩
  obtain ⟨k1, k2, k4⟩ := bk2 w9 _ _ _ hsb htb hwa
  have HLD : Hid (∀ W, Below wa.heap.size wa W → W.cell? ⟨sb, 0, none⟩ = some (.slice A1 L1.length c1) ∧ W.cell? ⟨tb, 0, none⟩ = some (.slice A2 L2.length c2)) := Lib.hid fun W hW => ⟨bCell hW (k1.cell 0), bCell hW (k2.cell 0)⟩
  have HBa := Lib.hid (bTrans HB9.out k4)
  have U1 := Lib.hid (V1.out.below k4)
  have U2 := Lib.hid (V2.out.below k4)
  have HEa := Lib.hid (And.intro hsb (And.intro htb hwa))
  have N1 : Hid (∀ W, Calls Tryz.prog 19 #[.agg #[.slice A1 L1.length c1]] W fun e w' => e = .returned (.int .i64 L1.length) ∧ Below W.heap.size W w') := Lib.hid fun W => st_Len A1 L1.length c1 W
  have N2 : Hid (∀ W, Calls Tryz.prog 19 #[.agg #[.slice A2 L2.length c2]] W fun e w' => e = .returned (.int .i64 L2.length) ∧ Below W.heap.size W w') := Lib.hid fun W => st_Len A2 L2.length c2 W
  have T1 := Lib.hid (fun W => at_all U1.out W)
  have T2 := Lib.hid (fun W => at_all U2.out W)
  clear k1 k2 k4 hsb htb hwa V1 V2 HW
  go_upto_region 6 with fail
  rw [HEa.out.1, HEa.out.2.1, HEa.out.2.2]
  clear HEa
  go_cut [9, 10] from 36 to 43 (fun av bv wx => ∃ ab bb : Nat, av = .pointer (some ⟨ab, 0, none⟩) ∧ bv = .pointer (some ⟨bb, 0, none⟩) ∧ Hid (Bk ab 29 #[.slice A1 L1.length L1.length] wx ∧ Bk bb 29 #[.slice A2 L2.length L2.length] wx ∧ Below wa.heap.size wa wx))
  case first =>
    refine wp_region_mk (SPS [(7, Sp.val (.pointer (some ⟨sb, 0, none⟩))), (36, Sp.val (.agg #[.slice A1 L1.length c1])), (37, Sp.val (.agg #[.slice A1 L1.length c1])), (38, Sp.val (.int .i64 L1.length)), (39, Sp.val (.agg #[.slice A1 L1.length L1.length])), (8, Sp.val (.pointer (some ⟨tb, 0, none⟩))), (40, Sp.val (.agg #[.slice A2 L2.length c2])), (41, Sp.val (.agg #[.slice A2 L2.length c2])), (42, Sp.val (.int .i64 L2.length)), (43, Sp.val (.agg #[.slice A2 L2.length L2.length]))]) [⟨8, 10, 9, 39, 29⟩, ⟨9, 11, 10, 43, 29⟩] [36, 37, 38, 39, 40, 41, 42, 43, 9, 10] rfl (by rfl) (by kernel_rfl) (SPS.st _) ?_ ?_ ?_ (by decide) (by rfl) ?_ (opsK_all ?_) ?_
    · exact fun p _ t v w b y x _ _ h => sps_pure (dead := []) (cons_all (.inr fun _ _ _ h => h) (cons_all (.inr fun _ _ _ h => h) (cons_all (.inr fun _ _ _ h => h) (cons_all (.inr fun _ _ _ h => h) (cons_all (.inr fun _ _ _ h => h) (cons_all (.inr fun _ _ _ h => h) (cons_all (.inr fun _ _ _ h => h) (cons_all (.inr fun _ _ _ h => h) (cons_all (.inr fun _ _ _ h => h) (cons_all (.inr fun _ _ _ h => h) (nil_all))))))))))) (by simp) h
    · intro p hp v w s hs
      simp only [List.mem_cons, List.not_mem_nil, or_false] at hp
      rcases hp with rfl | rfl
      all_goals cases hs
    · intro p hp
      simp only [List.mem_cons, List.not_mem_nil, or_false] at hp
      rcases hp with rfl | rfl
      all_goals exact ⟨_, rfl, by kernel_rfl, by kernel_rfl⟩
    · exact sps_start (cons_all rfl (cons_all rfl (nil_all)))
    · refine opsK_cons (by
       exact kind_n (opOk_load (p := ⟨sb, 0, none⟩) rfl rfl (.inl rfl) (by kernel_rfl) (fun _ _ h => h.get rfl) (fun W hW => by
          have c0 := (HLD.out W hW).1
          exact ⟨.agg #[.slice A1 L1.length c1], by go_simp, sps rfl rfl⟩)) (by decide)) ?_
      refine opsK_cons (by
       exact kind_n (opOk_load (p := ⟨sb, 0, none⟩) rfl rfl (.inl rfl) (by kernel_rfl) (fun _ _ h => h.get rfl) (fun W hW => by
          have c0 := (HLD.out W hW).1
          exact ⟨.agg #[.slice A1 L1.length c1], by go_simp, sps rfl rfl⟩)) (by decide)) ?_
      refine opsK_cons (by
       exact kind_n (opOk_callg (fun a => #[a.eval (.tmp 37)]) rfl rfl (.inl rfl) (fun a => by simp only [List.map_toArray, List.map_cons, List.map_nil] <;> rfl) (fun args W => by go_simp) (fun a W hW hsp => by
          have e37 : a.eval (.tmp 37) = .agg #[.slice A1 L1.length c1] := (hsp 37 (by kernel_rfl)).get rfl
          simp only [e37]
          exact (N1.out W).mono fun e w' ⟨he, hb⟩ => ⟨_, he, hb, sps rfl rfl⟩)) (by decide)) ?_
      refine opsK_cons (by
       exact kind_n (opOk_callg (fun a => #[a.eval (.tmp 36), a.eval (.tmp 38)]) rfl rfl (.inl rfl) (fun a => by simp only [List.map_toArray, List.map_cons, List.map_nil] <;> rfl) (fun args W => by go_simp) (fun a W hW hsp => by
          have e36 : a.eval (.tmp 36) = .agg #[.slice A1 L1.length c1] := (hsp 36 (by kernel_rfl)).get rfl
          have e38 : a.eval (.tmp 38) = .int .i64 L1.length := (hsp 38 (by kernel_rfl)).get rfl
          simp only [e36, e38]
          exact (T1.out W).mono fun e w' ⟨he, hb⟩ => ⟨_, he, hb, sps rfl rfl⟩)) (by decide)) ?_
      refine opsK_cons (by
       exact kind_n (opOk_load (p := ⟨tb, 0, none⟩) rfl rfl (.inl rfl) (by kernel_rfl) (fun _ _ h => h.get rfl) (fun W hW => by
          have c0 := (HLD.out W hW).2
          exact ⟨.agg #[.slice A2 L2.length c2], by go_simp, sps rfl rfl⟩)) (by decide)) ?_
      refine opsK_cons (by
       exact kind_n (opOk_load (p := ⟨tb, 0, none⟩) rfl rfl (.inl rfl) (by kernel_rfl) (fun _ _ h => h.get rfl) (fun W hW => by
          have c0 := (HLD.out W hW).2
          exact ⟨.agg #[.slice A2 L2.length c2], by go_simp, sps rfl rfl⟩)) (by decide)) ?_
      refine opsK_cons (by
       exact kind_n (opOk_callg (fun a => #[a.eval (.tmp 41)]) rfl rfl (.inl rfl) (fun a => by simp only [List.map_toArray, List.map_cons, List.map_nil] <;> rfl) (fun args W => by go_simp) (fun a W hW hsp => by
          have e41 : a.eval (.tmp 41) = .agg #[.slice A2 L2.length c2] := (hsp 41 (by kernel_rfl)).get rfl
          simp only [e41]
          exact (N2.out W).mono fun e w' ⟨he, hb⟩ => ⟨_, he, hb, sps rfl rfl⟩)) (by decide)) ?_
      refine opsK_cons (by
       exact kind_n (opOk_callg (fun a => #[a.eval (.tmp 40), a.eval (.tmp 42)]) rfl rfl (.inl rfl) (fun a => by simp only [List.map_toArray, List.map_cons, List.map_nil] <;> rfl) (fun args W => by go_simp) (fun a W hW hsp => by
          have e40 : a.eval (.tmp 40) = .agg #[.slice A2 L2.length c2] := (hsp 40 (by kernel_rfl)).get rfl
          have e42 : a.eval (.tmp 42) = .int .i64 L2.length := (hsp 42 (by kernel_rfl)).get rfl
          simp only [e40, e42]
          exact (T2.out W).mono fun e w' ⟨he, hb⟩ => ⟨_, he, hb, sps rfl rfl⟩)) (by decide)) ?_
      refine opsK_cons (by exact kind_alloc ⟨8, 10, 9, 39, 29⟩ (.slice none 0 0) (by simp) rfl rfl rfl (by decide) (by decide) (fun _ _ => run_newV rfl)) ?_
      refine opsK_cons (by exact kind_alloc ⟨9, 11, 10, 43, 29⟩ (.slice none 0 0) (by simp) rfl rfl rfl (by decide) (by decide) (fun _ _ => run_newV rfl)) ?_
      refine opsK_cons (by exact kind_store ⟨8, 10, 9, 39, 29⟩ (by simp) rfl rfl rfl (by kernel_rfl) (by kernel_rfl) (by kernel_rfl) (by decide) (fun v w h => ⟨_, _, _, h.get rfl⟩) (fun _ _ _ _ _ _ _ h1 h2 h3 => run_putV rfl h1 h2 h3)) ?_
      refine opsK_cons (by exact kind_store ⟨9, 11, 10, 43, 29⟩ (by simp) rfl rfl rfl (by kernel_rfl) (by kernel_rfl) (by kernel_rfl) (by decide) (fun v w h => ⟨_, _, _, h.get rfl⟩) (fun _ _ _ _ _ _ _ h1 h2 h3 => run_putV rfl h1 h2 h3)) ?_
      exact opsK_nil
    · intro vs W hb hsp hmk
      obtain ⟨vb0, y0, e0, hv0, hy0, z0⟩ := hmk ⟨8, 10, 9, 39, 29⟩ (by simp)
      have q0 : y0 = .slice A1 L1.length L1.length := by have h := z0.symm.trans ((hsp 39).get rfl); simpa using h
      subst q0
      obtain ⟨vb1, y1, e1, hv1, hy1, z1⟩ := hmk ⟨9, 11, 10, 43, 29⟩ (by simp)
      have q1 : y1 = .slice A2 L2.length L2.length := by have h := z1.symm.trans ((hsp 43).get rfl); simpa using h
      subst q1
      clear z0 z1 hmk hsp
      simp only [putAll]
      go_simp
      go_step
      go_meet
      exact ⟨vb0, vb1, rfl, rfl, Lib.hid ⟨hy0, hy1, hb⟩⟩
  case rest =>
    obtain ⟨ab, bb, rfl, rfl, HX⟩ := hcut
    obtain ⟨wv, rfl⟩ : ∃ x : World, x = wc := ⟨_, rfl⟩
    have HVW : Hid (∀ W, Below wv.heap.size wv W → (W.cell? ⟨ab, 0, none⟩ = some (.slice A1 L1.length L1.length) ∧ W.cell? ⟨bb, 0, none⟩ = some (.slice A2 L2.length L2.length)) ∧ Below wa.heap.size wa W) := Lib.hid fun W hW => ⟨⟨bCell hW (HX.out.1.cell 0), bCell hW (HX.out.2.1.cell 0)⟩, bTrans HX.out.2.2 hW⟩
    have HRV : Hid (Below wv.heap.size wv wv) := Lib.hid (Below.refl _ _)
    have HCG : Hid (∀ W, Below wa.heap.size wa W → Calls Tryz.prog 20 #[.agg #[.slice A1 L1.length L1.length], .agg #[.slice A2 L2.length L2.length]] W fun e w' => ChangedR L1 L2 e w' ∧ Below W.heap.size W w') := Lib.hid fun W hW => st_Changed L1 L2 A1 A2 L1.length L2.length W (by omega) (by omega) (U1.out.sl.below hW) (U2.out.sl.below hW) U1.out.fit U2.out.fit (.inr sortOk)
    have SIN := Lib.hid (fun W hW => sinceV U1.out U2.out p W hW)
    have PER := Lib.hid (fun W hW => persV U1.out U2.out W hW)
    have HP1 : Hid (∀ B W, Below wa.heap.size wa W → B ≤ W.heap.size → Calls Tryz.prog 26 #[.agg #[.slice A1 L1.length L1.length]] W fun e w' => ∃ v, e = .returned v ∧ Below W.heap.size W w' ∧ OwnU B v (personsL L1) w') := Lib.hid fun B W hW hB => vpersV U1.out W hW hB
    have HP2 : Hid (∀ B W, Below wa.heap.size wa W → B ≤ W.heap.size → Calls Tryz.prog 26 #[.agg #[.slice A2 L2.length L2.length]] W fun e w' => ∃ v, e = .returned v ∧ Below W.heap.size W w' ∧ OwnU B v (personsL L2) w') := Lib.hid fun B W hW hB => vpersV U2.out W hW hB
    have hxb := changed_bd L1 L2
    have hdl := dpL_len L1 L2
    have hp1 := personsL_len L1
    have hp2 := personsL_len L2
    have HAT := Lib.hid (fun i p => @dpL_at L1 L2 i p)
    have HUP := Lib.hid (fun i p q => @dpL_up L1 L2 i p q)
    have HHA := Lib.hid (dpL_has L1 L2 p)
    obtain ⟨X, hX⟩ : ∃ z, changedL L1 L2 = z := ⟨_, rfl⟩
    obtain ⟨D, hD⟩ : ∃ z, dpL L1 L2 = z := ⟨_, rfl⟩
    obtain ⟨PX, hPX⟩ : ∃ z, personsL L1 = z := ⟨_, rfl⟩
    obtain ⟨PY, hPY⟩ : ∃ z, personsL L2 = z := ⟨_, rfl⟩
    unfold ChangedR at HCG
    rw [hX] at HCG SIN HAT HHA hxb
    rw [hD] at PER HAT HUP HHA hdl
    rw [hPX] at HP1 HAT HHA hp1
    rw [hPY] at HP2 HAT HHA hp2
    have hx80 : X.length ≤ 80 := by omega
    have hd80 : D.length ≤ 80 := by omega
    have hp40 : PX.length ≤ 40 := by omega
    have hq40 : PY.length ≤ 40 := by omega
    clear N1 N2 T1 T2 HLD HX U1 U2 hX hD hPX hPY hxb hdl hp1 hp2 hl1 hl2
    obtain ⟨⟨q1, q2⟩, hqb⟩ := HVW.out wv HRV.out
    go_wp2_with fail
    refine (HCG.out _ hqb).mono ?_
    rintro e wf ⟨⟨C, cc, rfl, _, hsk⟩, hbf⟩
    have HRF := Lib.hid hbf
    have HSK := Lib.hid hsk
    have hx80i : ¬ (80 : Int) < (X.length : Int) := by omega
    clear q1 q2 hqb hbf hsk HCG
    go_wp2
    go_loopw [12, 13] (fun ov iv wr => ∃ k : Nat, k ≤ X.length ∧ iv = .int .i64 k ∧ Hid (OwnR wf.heap.size ov ((X.take k).map (·.2)) wr) ∧ Hid (Below wf.heap.size wf wr)) (fun _ iv _ => X.length - (intOf iv).toNat)
    case atStart => exact ⟨0, Nat.zero_le _, rfl, Lib.hid (Own.nil _), Lib.hid (Below.refl _ _)⟩
    case round =>
      obtain ⟨k, hk, rfl, HO, HB⟩ := hrel
      by_cases hlt : k < X.length
      · obtain ⟨x, hx⟩ : ∃ x, X[k]? = some x := ⟨_, List.getElem?_eq_getElem hlt⟩
        obtain ⟨b, off, rfl, hbl, hat⟩ := HSK.out (by intro h; simp [h] at hlt)
        have hat2 : ∀ j u, (encK x)[j]? = some u → wr.cell? ⟨b, off + k * 9 + j, none⟩ = some u := fun j u hu => bCell HB.out (hat k _ hx j u hu)
        have G1 := hat2 1 _ rfl
        have G2 := hat2 2 _ rfl
        have G3 := hat2 3 _ rfl
        have G4 := hat2 4 _ rfl
        have G5 := hat2 5 _ rfl
        have G6 := hat2 6 _ rfl
        have G7 := hat2 7 _ rfl
        have G8 := hat2 8 _ rfl
        have HTK : Hid ((X.take (k + 1)).map (·.2) = (X.take k).map (·.2) ++ [x.2]) := Lib.hid (by rw [List.take_add_one, hx, List.map_append]; rfl)
        have HLE : ((X.take k).map (·.2)).length + 1 ≤ 1000000000 := by rw [List.length_map, List.length_take]; omega
        have hlt2 : (k : Int) < (X.length : Int) := by omega
        have HOF := Lib.hid (la_of32 x.2 wr)
        unfold FA at HOF
        obtain ⟨f, hf⟩ : ∃ f, x.2 = f := ⟨_, rfl⟩
        rw [hf] at G1 G2 G3 G4 G5 G6 G7 G8 HTK HOF
        obtain ⟨D0, hD0⟩ : ∃ d, (X.take k).map (·.2) = d := ⟨_, rfl⟩
        rw [hD0] at HO HTK HLE
        clear hat hat2 hx hf hD0
        go_wp2_with fail
        refine HOF.out.mono ?_
        rintro e w6 ⟨rfl, hb6⟩
        have HB6 := Lib.hid (bTrans HB.out hb6)
        have HO6 := Lib.hid (own_bel HO.out hb6)
        have HZ6 : Hid (wf.heap.size ≤ w6.heap.size) := Lib.hid HB6.out.size
        clear G1 G2 G3 G4 G5 G6 G7 G8 hb6 HOF
        go_wp2_with ((at_builtin; refine wpList_append_row encF_len encF_one rfl _ _ 34 rfl wf.heap.size 37 _ 72 Tryz.underlying34 refInfo rfl (by decide) _ D0 f rfl (HO6.out.alloc _) w6.heap.size 1 rfl (newsR f w6) HLE (by decide) (Nat.le_trans HZ6.out (Grows.of_alloc _ _).size) ?_))
        intro v7 w7 hown7 hgr7
        have HB7 : Hid (Below wf.heap.size wf w7) := Lib.hid (bel_own (bTrans HB6.out (bAlloc w6 _)) (Nat.le_trans HZ6.out (Grows.of_alloc _ _).size) (HO6.out.alloc _) hgr7)
        have HO7 : Hid (OwnR wf.heap.size v7 ((X.take (k + 1)).map (·.2)) w7) := Lib.hid (by rw [HTK.out]; exact hown7)
        clear hown7 hgr7
        go_wp2
        exact ⟨⟨k + 1, by omega, by go_num, HO7, HB7⟩, by simp [intOf]; omega⟩
      · obtain rfl : k = X.length := by omega
        rw [List.take_length] at HO
        obtain ⟨E, ce, rfl, _, hse⟩ := own_sl encF_len HO.out
        rw [List.length_map]
        have HRr := Lib.hid (bTrans HRF.out HB.out)
        have HRS : Hid (∀ p W, Below wr.heap.size wr W → Calls Tryz.prog 23 #[.slice E X.length ce, .int .u32 p] W fun e w' => e = .returned (.tuple #[.int .i64 (sinceL p X).1, .bool (sinceL p X).2]) ∧ Below W.heap.size W w') := Lib.hid fun p W hW => r32_Since X p E ce W (by omega) (sl_bel hse hW)
        obtain ⟨⟨q1, q2⟩, hqb⟩ := HVW.out wr HRr.out
        obtain ⟨⟨d, is⟩, hdi⟩ : ∃ z, sinceL p X = z := ⟨_, rfl⟩
        have HR1 := Lib.hid (HRS.out p)
        rw [hdi] at SIN HHA HR1
        simp only at SIN HHA HR1
        have nd : (d != d) = false := by simp
        have ni : (is != is) = false := by cases is <;> rfl
        clear hse hdi hk hlt HO
        go_wp2_with fail
        refine (SIN.out _ hqb).mono ?_
        rintro e wg ⟨rfl, hbg⟩
        have HRG := Lib.hid (bTrans HRr.out hbg)
        have HQG : Hid (Below wr.heap.size wr wg) := Lib.hid hbg
        clear q1 q2 hqb hbg SIN
        go_wp2_with fail
        refine (HR1.out _ HQG.out).mono ?_
        rintro e wh ⟨rfl, hbh⟩
        have HRH := Lib.hid (bTrans HRG.out hbh)
        have HQH := Lib.hid (bTrans HQG.out hbh)
        obtain ⟨⟨q1, q2⟩, hqb⟩ := HVW.out wh HRH.out
        clear hbh HR1
        go_wp2_with fail
        refine (PER.out _ hqb).mono ?_
        rintro e wi ⟨⟨v, rfl, hov⟩, hbi⟩
        obtain ⟨G, cg, rfl, _, hsg⟩ := slU_own hov
        have HOV := Lib.hid hov
        have HRI := Lib.hid (bTrans HRH.out hbi)
        have HQI := Lib.hid (bTrans HQH.out hbi)
        have HWI : Hid (∀ W, Below wi.heap.size wi W → (W.cell? ⟨ab, 0, none⟩ = some (.slice A1 L1.length L1.length) ∧ W.cell? ⟨bb, 0, none⟩ = some (.slice A2 L2.length L2.length)) ∧ Below wa.heap.size wa W ∧ SlU W G D ∧ ∀ p, Calls Tryz.prog 23 #[.slice E X.length ce, .int .u32 p] W fun e w' => e = .returned (.tuple #[.int .i64 (sinceL p X).1, .bool (sinceL p X).2]) ∧ Below W.heap.size W w') := Lib.hid fun W hW => by
          obtain ⟨h1, h2⟩ := HVW.out _ (bTrans HRI.out hW)
          obtain ⟨G', c', e, _, hs⟩ := slU_own (ownU_below HOV.out hW)
          injection e with e1
          subst e1
          exact ⟨h1, h2, hs, fun p => HRS.out p _ (bTrans HQI.out hW)⟩
        clear q1 q2 hqb hbi hov hsg PER HRS HRI HQI HQH HQG HRG HRH HRr HRF HVW HOV
        go_wp2
        go_loopg [19] D.length (fun n iv ws => ∃ k : Nat, k + n = D.length ∧ iv = .int .i64 k ∧ Hid (Below wi.heap.size wi ws))
        case atStart => exact ⟨0, by omega, rfl, Lib.hid (Below.refl _ _)⟩
        case round =>
          obtain ⟨k, hk, rfl, HBs⟩ := hrel
          obtain ⟨ws, rfl⟩ : ∃ x : World, x = wr := ⟨_, rfl⟩
          by_cases hlt : k < D.length
          · obtain ⟨q, hq⟩ : ∃ x, D[k]? = some x := ⟨_, List.getElem?_eq_getElem hlt⟩
            obtain ⟨_, _, hsu, hsc⟩ := HWI.out ws HBs.out
            obtain ⟨g, og, rfl, hat⟩ := hsu (by intro h; simp [h] at hlt)
            have c0 := hat k q hq
            have hlt2 : (k : Int) < (D.length : Int) := by omega
            have hsq := hsc q
            obtain ⟨hpq, hany⟩ := HAT.out k q hq
            rw [hany] at hsq
            have HSQ := Lib.hid hsq
            have HWU : Hid (∀ j : Nat, k = j + 1 → ∃ r, D[j]? = some r ∧ r < q) := Lib.hid fun j hj => by
              subst hj
              obtain ⟨r, hr⟩ : ∃ x, D[j]? = some x := ⟨_, List.getElem?_eq_getElem (by omega)⟩
              exact ⟨r, hr, HUP.out j r q hr hq⟩
            have HPQ := Lib.hid hpq
            have HQ := Lib.hid hq
            clear hat hsu hsc hsq hpq hany hq
            go_wp2_with fail
            refine HSQ.out.mono ?_
            rintro e wt ⟨rfl, hbt⟩
            have HBt := Lib.hid (bTrans HBs.out hbt)
            clear hbt c0 HSQ
            go_upto_region 24 with fail
            have HCT : Hid (∀ W, Below wt.heap.size wt W → (W.cell? ⟨ab, 0, none⟩ = some (.slice A1 L1.length L1.length) ∧ W.cell? ⟨bb, 0, none⟩ = some (.slice A2 L2.length L2.length)) ∧ Below wa.heap.size wa W ∧ (∀ (i : Nat) (x : Int), D[i]? = some x → W.cell? ⟨g, og + i, none⟩ = some (.int .u32 x))) := Lib.hid fun W hW => by
              obtain ⟨h1, h2, hs, _⟩ := HWI.out _ (bTrans HBt.out hW)
              obtain ⟨g', og', e, hc⟩ := hs (by intro h; simp [h] at hlt)
              injection e with e
              injection e with e1 e2
              subst e1; subst e2
              exact ⟨h1, h2, hc⟩
            go_cut [141] from 104 to 141 (fun q wx => q = .bool false ∧ Hid (Below wt.heap.size wt wx))
            case first =>
              have hpx : decide (q ∈ PX) = true ∨ (decide (q ∈ PX) = false ∧ decide (q ∈ PY) = true) := by
                by_cases h : q ∈ PX
                · exact .inl (decide_eq_true h)
                · exact .inr ⟨decide_eq_false h, decide_eq_true (HPQ.out.resolve_left h)⟩
              rcases hpx with hpx | ⟨hpx, hpy⟩
              · by_cases hk0 : k = 0
                · subst hk0
                  refine wp_region_use (SPS [(9, Sp.val (.pointer (some ⟨ab, 0, none⟩))), (10, Sp.val (.pointer (some ⟨bb, 0, none⟩))), (18, Sp.val (.slice (some ⟨g, og, none⟩) D.length cg)), (19, Sp.val (.int .i64 ((0 : Nat) : Int))), (21, Sp.val (.bool true)), (107, Sp.val (.agg #[.slice A1 L1.length L1.length])), (108, Sp.ownU wt.heap.size PX), (111, Sp.val (.pointer (some ⟨g, og + 0, none⟩))), (112, Sp.val (.int .u32 q)), (113, Sp.val (.bool true)), (128, Sp.val (.bool false)), (104, Sp.val (.bool true)), (105, Sp.val (.bool false)), (106, Sp.val (.bool false)), (109, Sp.val (.slice (some ⟨g, og, none⟩) D.length cg)), (110, Sp.val (.int .i64 ((0 : Nat) : Int))), (114, Sp.val (.bool false)), (115, Sp.val (.bool false)), (124, Sp.val (.bool false)), (125, Sp.val (.bool false)), (126, Sp.val (.bool false)), (127, Sp.val (.int .i64 ((0 : Nat) : Int))), (129, Sp.val (.bool false)), (140, Sp.val (.bool false)), (141, Sp.val (.bool false))]) [] [104, 105, 106, 107, 108, 109, 110, 111, 112, 113, 114, 115, 116, 117, 118, 119, 120, 121, 122, 123, 124, 125, 126, 127, 128, 129, 130, 131, 132, 133, 134, 135, 136, 137, 138, 139, 140, 141] rfl (by rfl) (by kernel_rfl) (SPS.st _) (by rfl) ?_ (opsK_all ?_) ?_
                  · exact sps_start (cons_all rfl (cons_all rfl (cons_all rfl (cons_all rfl (cons_all rfl (nil_all))))))
                  · refine opsK_cons (by
                     exact use_s [] (opOk_move rfl rfl (.inl rfl) (by kernel_rfl) (fun _ _ h => sps rfl (h.get rfl))) (by kernel_rfl) (by rfl)) ?_
                    refine opsK_cons (by
                     exact use_s [] (opOk_run rfl (.inl rfl) (fun a W hW hsp => by
                        have e104 : a.eval (.tmp 104) = .bool true := (hsp 104 (by kernel_rfl)).get rfl
                        refine ⟨.bool false, ?_, sps rfl rfl⟩
                        unfold execOp
                        simp only [e104]
                        go_simp)) (by kernel_rfl) (by rfl)) ?_
                    refine opsK_cons (by
                     exact use_s [] (opOk_move rfl rfl (.inl rfl) (by kernel_rfl) (fun _ _ h => sps rfl (h.get rfl))) (by kernel_rfl) (by rfl)) ?_
                    refine opsK_cons (by
                     exact use_s [] (opOk_load (p := ⟨ab, 0, none⟩) rfl rfl (.inr ⟨2, 106, false, rfl, rfl, (by kernel_rfl), fun _ _ h => h.get rfl⟩) (by kernel_rfl) (fun _ _ h => h.get rfl) (fun W hW => by
                        have cc := (HCT.out W hW).1.1
                        exact ⟨.agg #[.slice A1 L1.length L1.length], by go_simp, sps rfl rfl⟩)) (by kernel_rfl) (by rfl)) ?_
                    refine opsK_cons (by
                     exact use_s [] (opOk_callg (fun a => #[a.eval (.tmp 107)]) rfl rfl (.inr ⟨2, 106, false, rfl, rfl, (by kernel_rfl), fun _ _ h => h.get rfl⟩) (fun a => by simp only [List.map_toArray, List.map_cons, List.map_nil] <;> rfl) (fun args W => by go_simp) (fun a W hW hsp => by
                        have e107 : a.eval (.tmp 107) = .agg #[.slice A1 L1.length L1.length] := (hsp 107 (by kernel_rfl)).get rfl
                        simp only [e107]
                        exact (HP1.out wt.heap.size W (HCT.out W hW).2.1 hW.size).mono fun e w' ⟨v, he, hb, ho⟩ => ⟨v, he, hb, sps rfl ho⟩)) (by kernel_rfl) (by rfl)) ?_
                    refine opsK_cons (by
                     exact use_s [] (opOk_move rfl rfl (.inr ⟨2, 106, false, rfl, rfl, (by kernel_rfl), fun _ _ h => h.get rfl⟩) (by kernel_rfl) (fun _ _ h => sps rfl (h.get rfl))) (by kernel_rfl) (by rfl)) ?_
                    refine opsK_cons (by
                     exact use_s [] (opOk_move rfl rfl (.inr ⟨2, 106, false, rfl, rfl, (by kernel_rfl), fun _ _ h => h.get rfl⟩) (by kernel_rfl) (fun _ _ h => sps rfl (h.get rfl))) (by kernel_rfl) (by rfl)) ?_
                    refine opsK_cons (by
                     exact use_s [] (opOk_run rfl (.inr ⟨2, 106, false, rfl, rfl, (by kernel_rfl), fun _ _ h => h.get rfl⟩) (fun a W hW hsp => by
                        have e109 : a.eval (.tmp 109) = .slice (some ⟨g, og, none⟩) D.length cg := (hsp 109 (by kernel_rfl)).get rfl
                        have e110 : a.eval (.tmp 110) = .int .i64 ((0 : Nat) : Int) := (hsp 110 (by kernel_rfl)).get rfl
                        have hlt3 : 0 < D.length := by omega
                        refine ⟨.pointer (some ⟨g, og + 0, none⟩), ?_, sps rfl rfl⟩
                        unfold execOp
                        simp only [e109, e110]
                        go_simp)) (by kernel_rfl) (by rfl)) ?_
                    refine opsK_cons (by
                     exact use_s [] (opOk_load (p := ⟨g, og + 0, none⟩) rfl rfl (.inr ⟨2, 106, false, rfl, rfl, (by kernel_rfl), fun _ _ h => h.get rfl⟩) (by kernel_rfl) (fun _ _ h => h.get rfl) (fun W hW => by
                        have cc := (HCT.out W hW).2.2 0 q HQ.out
                        simp only [Nat.add_zero] at cc
                        exact ⟨.int .u32 q, by go_simp, sps rfl rfl⟩)) (by kernel_rfl) (by rfl)) ?_
                    refine opsK_cons (by
                     exact use_s [] (opOk_callg (fun a => #[a.eval (.tmp 108), a.eval (.tmp 112)]) rfl rfl (.inr ⟨2, 106, false, rfl, rfl, (by kernel_rfl), fun _ _ h => h.get rfl⟩) (fun a => by simp only [List.map_toArray, List.map_cons, List.map_nil] <;> rfl) (fun args W => by go_simp) (fun a W hW hsp => by
                        obtain ⟨A8, c8, hv8, _, hs8⟩ := slU_own ((hsp 108 (by kernel_rfl)).get rfl)
                        have e108 : a.eval (.tmp 108) = .slice A8 PX.length c8 := hv8
                        have e112 : a.eval (.tmp 112) = .int .u32 q := (hsp 112 (by kernel_rfl)).get rfl
                        simp only [e108, e112]
                        refine (la_has PX q A8 c8 W (by omega) hs8).mono ?_
                        rintro e w' ⟨he, rfl⟩
                        rw [hpx] at he
                        exact ⟨_, he, Below.refl _ _, sps rfl rfl⟩)) (by kernel_rfl) (by rfl)) ?_
                    refine opsK_cons (by
                     exact use_s [] (opOk_run rfl (.inr ⟨2, 106, false, rfl, rfl, (by kernel_rfl), fun _ _ h => h.get rfl⟩) (fun a W hW hsp => by
                        have e113 : a.eval (.tmp 113) = .bool true := (hsp 113 (by kernel_rfl)).get rfl
                        refine ⟨.bool false, ?_, sps rfl rfl⟩
                        unfold execOp
                        simp only [e113]
                        go_simp)) (by kernel_rfl) (by rfl)) ?_
                    refine opsK_cons (by
                     exact use_s [] (opOk_move rfl rfl (.inr ⟨2, 106, false, rfl, rfl, (by kernel_rfl), fun _ _ h => h.get rfl⟩) (by kernel_rfl) (fun _ _ h => sps rfl (h.get rfl))) (by kernel_rfl) (by rfl)) ?_
                    refine opsK_cons (by
                     exact use_skip rfl rfl (by kernel_rfl) (by rfl) (fun _ _ h => h.get rfl) (fun d hd => by cases hd; rfl)) ?_
                    refine opsK_cons (by
                     exact use_skip rfl rfl (by kernel_rfl) (by rfl) (fun _ _ h => h.get rfl) (fun d hd => by cases hd; rfl)) ?_
                    refine opsK_cons (by
                     exact use_skip rfl rfl (by kernel_rfl) (by rfl) (fun _ _ h => h.get rfl) (fun d hd => by cases hd; rfl)) ?_
                    refine opsK_cons (by
                     exact use_skip rfl rfl (by kernel_rfl) (by rfl) (fun _ _ h => h.get rfl) (fun d hd => by cases hd; rfl)) ?_
                    refine opsK_cons (by
                     exact use_skip rfl rfl (by kernel_rfl) (by rfl) (fun _ _ h => h.get rfl) (fun d hd => by cases hd; rfl)) ?_
                    refine opsK_cons (by
                     exact use_skip rfl rfl (by kernel_rfl) (by rfl) (fun _ _ h => h.get rfl) (fun d hd => by cases hd; rfl)) ?_
                    refine opsK_cons (by
                     exact use_skip rfl rfl (by kernel_rfl) (by rfl) (fun _ _ h => h.get rfl) (fun d hd => by cases hd; rfl)) ?_
                    refine opsK_cons (by
                     exact use_skip rfl rfl (by kernel_rfl) (by rfl) (fun _ _ h => h.get rfl) (fun d hd => by cases hd; rfl)) ?_
                    refine opsK_cons (by
                     exact use_s [] (opOk_run rfl (.inr ⟨2, 106, false, rfl, rfl, (by kernel_rfl), fun _ _ h => h.get rfl⟩) (fun a W hW hsp => by
                        have e115 : a.eval (.tmp 115) = .bool false := (hsp 115 (by kernel_rfl)).get rfl
                        refine ⟨.bool false, ?_, sps rfl rfl⟩
                        unfold execOp
                        simp only [e115]
                        go_simp)) (by kernel_rfl) (by rfl)) ?_
                    refine opsK_cons (by
                     exact use_s [] (opOk_run rfl (.inl rfl) (fun a W hW hsp => by
                        have e106 : a.eval (.tmp 106) = .bool false := (hsp 106 (by kernel_rfl)).get rfl
                        have e124 : a.eval (.tmp 124) = .bool false := (hsp 124 (by kernel_rfl)).get rfl
                        refine ⟨.bool false, ?_, sps rfl rfl⟩
                        unfold execOp
                        simp only [e106, e124]
                        go_simp)) (by kernel_rfl) (by rfl)) ?_
                    refine opsK_cons (by
                     exact use_s [] (opOk_move rfl rfl (.inl rfl) (by kernel_rfl) (fun _ _ h => sps rfl (h.get rfl))) (by kernel_rfl) (by rfl)) ?_
                    refine opsK_cons (by
                     exact use_s [] (opOk_move rfl rfl (.inr ⟨22, 126, false, rfl, rfl, (by kernel_rfl), fun _ _ h => h.get rfl⟩) (by kernel_rfl) (fun _ _ h => sps rfl (h.get rfl))) (by kernel_rfl) (by rfl)) ?_
                    refine opsK_cons (by
                     exact use_s [] (opOk_run rfl (.inr ⟨22, 126, false, rfl, rfl, (by kernel_rfl), fun _ _ h => h.get rfl⟩) (fun a W hW hsp => by
                        have e127 : a.eval (.tmp 127) = .int .i64 ((0 : Nat) : Int) := (hsp 127 (by kernel_rfl)).get rfl
                        have hd : decide ((0 : Int) < ((0 : Nat) : Int)) = false := rfl
                        refine ⟨.bool false, ?_, sps rfl rfl⟩
                        unfold execOp
                        simp only [e127]
                        go_simp)) (by kernel_rfl) (by rfl)) ?_
                    refine opsK_cons (by
                     exact use_s [] (opOk_move rfl rfl (.inr ⟨22, 126, false, rfl, rfl, (by kernel_rfl), fun _ _ h => h.get rfl⟩) (by kernel_rfl) (fun _ _ h => sps rfl (h.get rfl))) (by kernel_rfl) (by rfl)) ?_
                    refine opsK_cons (by
                     exact use_skip rfl rfl (by kernel_rfl) (by rfl) (fun _ _ h => h.get rfl) (fun d hd => by cases hd; rfl)) ?_
                    refine opsK_cons (by
                     exact use_skip rfl rfl (by kernel_rfl) (by rfl) (fun _ _ h => h.get rfl) (fun d hd => by cases hd; rfl)) ?_
                    refine opsK_cons (by
                     exact use_skip rfl rfl (by kernel_rfl) (by rfl) (fun _ _ h => h.get rfl) (fun d hd => by cases hd; rfl)) ?_
                    refine opsK_cons (by
                     exact use_skip rfl rfl (by kernel_rfl) (by rfl) (fun _ _ h => h.get rfl) (fun d hd => by cases hd; rfl)) ?_
                    refine opsK_cons (by
                     exact use_skip rfl rfl (by kernel_rfl) (by rfl) (fun _ _ h => h.get rfl) (fun d hd => by cases hd; rfl)) ?_
                    refine opsK_cons (by
                     exact use_skip rfl rfl (by kernel_rfl) (by rfl) (fun _ _ h => h.get rfl) (fun d hd => by cases hd; rfl)) ?_
                    refine opsK_cons (by
                     exact use_skip rfl rfl (by kernel_rfl) (by rfl) (fun _ _ h => h.get rfl) (fun d hd => by cases hd; rfl)) ?_
                    refine opsK_cons (by
                     exact use_skip rfl rfl (by kernel_rfl) (by rfl) (fun _ _ h => h.get rfl) (fun d hd => by cases hd; rfl)) ?_
                    refine opsK_cons (by
                     exact use_skip rfl rfl (by kernel_rfl) (by rfl) (fun _ _ h => h.get rfl) (fun d hd => by cases hd; rfl)) ?_
                    refine opsK_cons (by
                     exact use_skip rfl rfl (by kernel_rfl) (by rfl) (fun _ _ h => h.get rfl) (fun d hd => by cases hd; rfl)) ?_
                    refine opsK_cons (by
                     exact use_s [] (opOk_run rfl (.inr ⟨22, 126, false, rfl, rfl, (by kernel_rfl), fun _ _ h => h.get rfl⟩) (fun a W hW hsp => by
                        have e129 : a.eval (.tmp 129) = .bool false := (hsp 129 (by kernel_rfl)).get rfl
                        refine ⟨.bool false, ?_, sps rfl rfl⟩
                        unfold execOp
                        simp only [e129]
                        go_simp)) (by kernel_rfl) (by rfl)) ?_
                    refine opsK_cons (by
                     exact use_s [] (opOk_run rfl (.inl rfl) (fun a W hW hsp => by
                        have e126 : a.eval (.tmp 126) = .bool false := (hsp 126 (by kernel_rfl)).get rfl
                        have e140 : a.eval (.tmp 140) = .bool false := (hsp 140 (by kernel_rfl)).get rfl
                        refine ⟨.bool false, ?_, sps rfl rfl⟩
                        unfold execOp
                        simp only [e126, e140]
                        go_simp)) (by kernel_rfl) (by rfl)) ?_
                    exact opsK_nil
                  · intro vs W hb hsp
                    have z := (hsp 141 (by simp)).get rfl
                    simp only [putAll]
                    go_simp
                    go_step
                    go_meet
                    exact ⟨z, Lib.hid hb⟩
                · obtain ⟨j, rfl⟩ : ∃ j, k = j + 1 := ⟨k - 1, by omega⟩
                  obtain ⟨r, hr, hrq⟩ := HWU.out j rfl
                  refine wp_region_use (SPS [(9, Sp.val (.pointer (some ⟨ab, 0, none⟩))), (10, Sp.val (.pointer (some ⟨bb, 0, none⟩))), (18, Sp.val (.slice (some ⟨g, og, none⟩) D.length cg)), (19, Sp.val (.int .i64 ((j + 1 : Nat) : Int))), (21, Sp.val (.bool true)), (107, Sp.val (.agg #[.slice A1 L1.length L1.length])), (108, Sp.ownU wt.heap.size PX), (111, Sp.val (.pointer (some ⟨g, og + (j + 1), none⟩))), (112, Sp.val (.int .u32 q)), (113, Sp.val (.bool true)), (128, Sp.val (.bool true)), (132, Sp.val (.int .i64 j)), (133, Sp.val (.pointer (some ⟨g, og + j, none⟩))), (134, Sp.val (.int .u32 r)), (137, Sp.val (.pointer (some ⟨g, og + (j + 1), none⟩))), (138, Sp.val (.int .u32 q)), (139, Sp.val (.bool false)), (104, Sp.val (.bool true)), (105, Sp.val (.bool false)), (106, Sp.val (.bool false)), (109, Sp.val (.slice (some ⟨g, og, none⟩) D.length cg)), (110, Sp.val (.int .i64 ((j + 1 : Nat) : Int))), (114, Sp.val (.bool false)), (115, Sp.val (.bool false)), (124, Sp.val (.bool false)), (125, Sp.val (.bool false)), (126, Sp.val (.bool false)), (127, Sp.val (.int .i64 ((j + 1 : Nat) : Int))), (129, Sp.val (.bool true)), (130, Sp.val (.slice (some ⟨g, og, none⟩) D.length cg)), (131, Sp.val (.int .i64 ((j + 1 : Nat) : Int))), (135, Sp.val (.slice (some ⟨g, og, none⟩) D.length cg)), (136, Sp.val (.int .i64 ((j + 1 : Nat) : Int))), (140, Sp.val (.bool false)), (141, Sp.val (.bool false))]) [] [104, 105, 106, 107, 108, 109, 110, 111, 112, 113, 114, 115, 116, 117, 118, 119, 120, 121, 122, 123, 124, 125, 126, 127, 128, 129, 130, 131, 132, 133, 134, 135, 136, 137, 138, 139, 140, 141] rfl (by rfl) (by kernel_rfl) (SPS.st _) (by rfl) ?_ (opsK_all ?_) ?_
                  · exact sps_start (cons_all rfl (cons_all rfl (cons_all rfl (cons_all rfl (cons_all rfl (nil_all))))))
                  · refine opsK_cons (by
                     exact use_s [] (opOk_move rfl rfl (.inl rfl) (by kernel_rfl) (fun _ _ h => sps rfl (h.get rfl))) (by kernel_rfl) (by rfl)) ?_
                    refine opsK_cons (by
                     exact use_s [] (opOk_run rfl (.inl rfl) (fun a W hW hsp => by
                        have e104 : a.eval (.tmp 104) = .bool true := (hsp 104 (by kernel_rfl)).get rfl
                        refine ⟨.bool false, ?_, sps rfl rfl⟩
                        unfold execOp
                        simp only [e104]
                        go_simp)) (by kernel_rfl) (by rfl)) ?_
                    refine opsK_cons (by
                     exact use_s [] (opOk_move rfl rfl (.inl rfl) (by kernel_rfl) (fun _ _ h => sps rfl (h.get rfl))) (by kernel_rfl) (by rfl)) ?_
                    refine opsK_cons (by
                     exact use_s [] (opOk_load (p := ⟨ab, 0, none⟩) rfl rfl (.inr ⟨2, 106, false, rfl, rfl, (by kernel_rfl), fun _ _ h => h.get rfl⟩) (by kernel_rfl) (fun _ _ h => h.get rfl) (fun W hW => by
                        have cc := (HCT.out W hW).1.1
                        exact ⟨.agg #[.slice A1 L1.length L1.length], by go_simp, sps rfl rfl⟩)) (by kernel_rfl) (by rfl)) ?_
                    refine opsK_cons (by
                     exact use_s [] (opOk_callg (fun a => #[a.eval (.tmp 107)]) rfl rfl (.inr ⟨2, 106, false, rfl, rfl, (by kernel_rfl), fun _ _ h => h.get rfl⟩) (fun a => by simp only [List.map_toArray, List.map_cons, List.map_nil] <;> rfl) (fun args W => by go_simp) (fun a W hW hsp => by
                        have e107 : a.eval (.tmp 107) = .agg #[.slice A1 L1.length L1.length] := (hsp 107 (by kernel_rfl)).get rfl
                        simp only [e107]
                        exact (HP1.out wt.heap.size W (HCT.out W hW).2.1 hW.size).mono fun e w' ⟨v, he, hb, ho⟩ => ⟨v, he, hb, sps rfl ho⟩)) (by kernel_rfl) (by rfl)) ?_
                    refine opsK_cons (by
                     exact use_s [] (opOk_move rfl rfl (.inr ⟨2, 106, false, rfl, rfl, (by kernel_rfl), fun _ _ h => h.get rfl⟩) (by kernel_rfl) (fun _ _ h => sps rfl (h.get rfl))) (by kernel_rfl) (by rfl)) ?_
                    refine opsK_cons (by
                     exact use_s [] (opOk_move rfl rfl (.inr ⟨2, 106, false, rfl, rfl, (by kernel_rfl), fun _ _ h => h.get rfl⟩) (by kernel_rfl) (fun _ _ h => sps rfl (h.get rfl))) (by kernel_rfl) (by rfl)) ?_
                    refine opsK_cons (by
                     exact use_s [] (opOk_run rfl (.inr ⟨2, 106, false, rfl, rfl, (by kernel_rfl), fun _ _ h => h.get rfl⟩) (fun a W hW hsp => by
                        have e109 : a.eval (.tmp 109) = .slice (some ⟨g, og, none⟩) D.length cg := (hsp 109 (by kernel_rfl)).get rfl
                        have e110 : a.eval (.tmp 110) = .int .i64 ((j + 1 : Nat) : Int) := (hsp 110 (by kernel_rfl)).get rfl
                        have hlt3 : (j + 1) < D.length := by omega
                        refine ⟨.pointer (some ⟨g, og + (j + 1), none⟩), ?_, sps rfl rfl⟩
                        unfold execOp
                        simp only [e109, e110]
                        go_simp
                        intro h
                        exact absurd (h (by omega)) (by omega))) (by kernel_rfl) (by rfl)) ?_
                    refine opsK_cons (by
                     exact use_s [] (opOk_load (p := ⟨g, og + (j + 1), none⟩) rfl rfl (.inr ⟨2, 106, false, rfl, rfl, (by kernel_rfl), fun _ _ h => h.get rfl⟩) (by kernel_rfl) (fun _ _ h => h.get rfl) (fun W hW => by
                        have cc := (HCT.out W hW).2.2 (j + 1) q HQ.out
                        exact ⟨.int .u32 q, by go_simp, sps rfl rfl⟩)) (by kernel_rfl) (by rfl)) ?_
                    refine opsK_cons (by
                     exact use_s [] (opOk_callg (fun a => #[a.eval (.tmp 108), a.eval (.tmp 112)]) rfl rfl (.inr ⟨2, 106, false, rfl, rfl, (by kernel_rfl), fun _ _ h => h.get rfl⟩) (fun a => by simp only [List.map_toArray, List.map_cons, List.map_nil] <;> rfl) (fun args W => by go_simp) (fun a W hW hsp => by
                        obtain ⟨A8, c8, hv8, _, hs8⟩ := slU_own ((hsp 108 (by kernel_rfl)).get rfl)
                        have e108 : a.eval (.tmp 108) = .slice A8 PX.length c8 := hv8
                        have e112 : a.eval (.tmp 112) = .int .u32 q := (hsp 112 (by kernel_rfl)).get rfl
                        simp only [e108, e112]
                        refine (la_has PX q A8 c8 W (by omega) hs8).mono ?_
                        rintro e w' ⟨he, rfl⟩
                        rw [hpx] at he
                        exact ⟨_, he, Below.refl _ _, sps rfl rfl⟩)) (by kernel_rfl) (by rfl)) ?_
                    refine opsK_cons (by
                     exact use_s [] (opOk_run rfl (.inr ⟨2, 106, false, rfl, rfl, (by kernel_rfl), fun _ _ h => h.get rfl⟩) (fun a W hW hsp => by
                        have e113 : a.eval (.tmp 113) = .bool true := (hsp 113 (by kernel_rfl)).get rfl
                        refine ⟨.bool false, ?_, sps rfl rfl⟩
                        unfold execOp
                        simp only [e113]
                        go_simp)) (by kernel_rfl) (by rfl)) ?_
                    refine opsK_cons (by
                     exact use_s [] (opOk_move rfl rfl (.inr ⟨2, 106, false, rfl, rfl, (by kernel_rfl), fun _ _ h => h.get rfl⟩) (by kernel_rfl) (fun _ _ h => sps rfl (h.get rfl))) (by kernel_rfl) (by rfl)) ?_
                    refine opsK_cons (by
                     exact use_skip rfl rfl (by kernel_rfl) (by rfl) (fun _ _ h => h.get rfl) (fun d hd => by cases hd; rfl)) ?_
                    refine opsK_cons (by
                     exact use_skip rfl rfl (by kernel_rfl) (by rfl) (fun _ _ h => h.get rfl) (fun d hd => by cases hd; rfl)) ?_
                    refine opsK_cons (by
                     exact use_skip rfl rfl (by kernel_rfl) (by rfl) (fun _ _ h => h.get rfl) (fun d hd => by cases hd; rfl)) ?_
                    refine opsK_cons (by
                     exact use_skip rfl rfl (by kernel_rfl) (by rfl) (fun _ _ h => h.get rfl) (fun d hd => by cases hd; rfl)) ?_
                    refine opsK_cons (by
                     exact use_skip rfl rfl (by kernel_rfl) (by rfl) (fun _ _ h => h.get rfl) (fun d hd => by cases hd; rfl)) ?_
                    refine opsK_cons (by
                     exact use_skip rfl rfl (by kernel_rfl) (by rfl) (fun _ _ h => h.get rfl) (fun d hd => by cases hd; rfl)) ?_
                    refine opsK_cons (by
                     exact use_skip rfl rfl (by kernel_rfl) (by rfl) (fun _ _ h => h.get rfl) (fun d hd => by cases hd; rfl)) ?_
                    refine opsK_cons (by
                     exact use_skip rfl rfl (by kernel_rfl) (by rfl) (fun _ _ h => h.get rfl) (fun d hd => by cases hd; rfl)) ?_
                    refine opsK_cons (by
                     exact use_s [] (opOk_run rfl (.inr ⟨2, 106, false, rfl, rfl, (by kernel_rfl), fun _ _ h => h.get rfl⟩) (fun a W hW hsp => by
                        have e115 : a.eval (.tmp 115) = .bool false := (hsp 115 (by kernel_rfl)).get rfl
                        refine ⟨.bool false, ?_, sps rfl rfl⟩
                        unfold execOp
                        simp only [e115]
                        go_simp)) (by kernel_rfl) (by rfl)) ?_
                    refine opsK_cons (by
                     exact use_s [] (opOk_run rfl (.inl rfl) (fun a W hW hsp => by
                        have e106 : a.eval (.tmp 106) = .bool false := (hsp 106 (by kernel_rfl)).get rfl
                        have e124 : a.eval (.tmp 124) = .bool false := (hsp 124 (by kernel_rfl)).get rfl
                        refine ⟨.bool false, ?_, sps rfl rfl⟩
                        unfold execOp
                        simp only [e106, e124]
                        go_simp)) (by kernel_rfl) (by rfl)) ?_
                    refine opsK_cons (by
                     exact use_s [] (opOk_move rfl rfl (.inl rfl) (by kernel_rfl) (fun _ _ h => sps rfl (h.get rfl))) (by kernel_rfl) (by rfl)) ?_
                    refine opsK_cons (by
                     exact use_s [] (opOk_move rfl rfl (.inr ⟨22, 126, false, rfl, rfl, (by kernel_rfl), fun _ _ h => h.get rfl⟩) (by kernel_rfl) (fun _ _ h => sps rfl (h.get rfl))) (by kernel_rfl) (by rfl)) ?_
                    refine opsK_cons (by
                     exact use_s [] (opOk_run rfl (.inr ⟨22, 126, false, rfl, rfl, (by kernel_rfl), fun _ _ h => h.get rfl⟩) (fun a W hW hsp => by
                        have e127 : a.eval (.tmp 127) = .int .i64 ((j + 1 : Nat) : Int) := (hsp 127 (by kernel_rfl)).get rfl
                        have hd : decide ((0 : Int) < ((j + 1 : Nat) : Int)) = true := decide_eq_true (by omega)
                        refine ⟨.bool true, ?_, sps rfl rfl⟩
                        unfold execOp
                        simp only [e127]
                        go_simp)) (by kernel_rfl) (by rfl)) ?_
                    refine opsK_cons (by
                     exact use_s [] (opOk_move rfl rfl (.inr ⟨22, 126, false, rfl, rfl, (by kernel_rfl), fun _ _ h => h.get rfl⟩) (by kernel_rfl) (fun _ _ h => sps rfl (h.get rfl))) (by kernel_rfl) (by rfl)) ?_
                    refine opsK_cons (by
                     exact use_s [] (opOk_move rfl rfl (.inr ⟨25, 129, true, rfl, rfl, (by kernel_rfl), fun _ _ h => h.get rfl⟩) (by kernel_rfl) (fun _ _ h => sps rfl (h.get rfl))) (by kernel_rfl) (by rfl)) ?_
                    refine opsK_cons (by
                     exact use_s [] (opOk_move rfl rfl (.inr ⟨25, 129, true, rfl, rfl, (by kernel_rfl), fun _ _ h => h.get rfl⟩) (by kernel_rfl) (fun _ _ h => sps rfl (h.get rfl))) (by kernel_rfl) (by rfl)) ?_
                    refine opsK_cons (by
                     exact use_s [] (opOk_run rfl (.inr ⟨25, 129, true, rfl, rfl, (by kernel_rfl), fun _ _ h => h.get rfl⟩) (fun a W hW hsp => by
                        have e131 : a.eval (.tmp 131) = .int .i64 ((j + 1 : Nat) : Int) := (hsp 131 (by kernel_rfl)).get rfl
                        refine ⟨.int .i64 j, ?_, sps rfl rfl⟩
                        unfold execOp
                        simp only [e131]
                        go_simp
                        rw [IntKind.wrap_i64]
                        omega)) (by kernel_rfl) (by rfl)) ?_
                    refine opsK_cons (by
                     exact use_s [] (opOk_run rfl (.inr ⟨25, 129, true, rfl, rfl, (by kernel_rfl), fun _ _ h => h.get rfl⟩) (fun a W hW hsp => by
                        have e130 : a.eval (.tmp 130) = .slice (some ⟨g, og, none⟩) D.length cg := (hsp 130 (by kernel_rfl)).get rfl
                        have e132 : a.eval (.tmp 132) = .int .i64 j := (hsp 132 (by kernel_rfl)).get rfl
                        have hlt3 : j < D.length := by omega
                        refine ⟨.pointer (some ⟨g, og + j, none⟩), ?_, sps rfl rfl⟩
                        unfold execOp
                        simp only [e130, e132]
                        go_simp)) (by kernel_rfl) (by rfl)) ?_
                    refine opsK_cons (by
                     exact use_s [] (opOk_load (p := ⟨g, og + j, none⟩) rfl rfl (.inr ⟨25, 129, true, rfl, rfl, (by kernel_rfl), fun _ _ h => h.get rfl⟩) (by kernel_rfl) (fun _ _ h => h.get rfl) (fun W hW => by
                        have cc := (HCT.out W hW).2.2 j r hr
                        exact ⟨.int .u32 r, by go_simp, sps rfl rfl⟩)) (by kernel_rfl) (by rfl)) ?_
                    refine opsK_cons (by
                     exact use_s [] (opOk_move rfl rfl (.inr ⟨25, 129, true, rfl, rfl, (by kernel_rfl), fun _ _ h => h.get rfl⟩) (by kernel_rfl) (fun _ _ h => sps rfl (h.get rfl))) (by kernel_rfl) (by rfl)) ?_
                    refine opsK_cons (by
                     exact use_s [] (opOk_move rfl rfl (.inr ⟨25, 129, true, rfl, rfl, (by kernel_rfl), fun _ _ h => h.get rfl⟩) (by kernel_rfl) (fun _ _ h => sps rfl (h.get rfl))) (by kernel_rfl) (by rfl)) ?_
                    refine opsK_cons (by
                     exact use_s [] (opOk_run rfl (.inr ⟨25, 129, true, rfl, rfl, (by kernel_rfl), fun _ _ h => h.get rfl⟩) (fun a W hW hsp => by
                        have e135 : a.eval (.tmp 135) = .slice (some ⟨g, og, none⟩) D.length cg := (hsp 135 (by kernel_rfl)).get rfl
                        have e136 : a.eval (.tmp 136) = .int .i64 ((j + 1 : Nat) : Int) := (hsp 136 (by kernel_rfl)).get rfl
                        have hlt3 : (j + 1) < D.length := by omega
                        refine ⟨.pointer (some ⟨g, og + (j + 1), none⟩), ?_, sps rfl rfl⟩
                        unfold execOp
                        simp only [e135, e136]
                        go_simp
                        intro h
                        exact absurd (h (by omega)) (by omega))) (by kernel_rfl) (by rfl)) ?_
                    refine opsK_cons (by
                     exact use_s [] (opOk_load (p := ⟨g, og + (j + 1), none⟩) rfl rfl (.inr ⟨25, 129, true, rfl, rfl, (by kernel_rfl), fun _ _ h => h.get rfl⟩) (by kernel_rfl) (fun _ _ h => h.get rfl) (fun W hW => by
                        have cc := (HCT.out W hW).2.2 (j + 1) q HQ.out
                        exact ⟨.int .u32 q, by go_simp, sps rfl rfl⟩)) (by kernel_rfl) (by rfl)) ?_
                    refine opsK_cons (by
                     exact use_s [] (opOk_run rfl (.inr ⟨25, 129, true, rfl, rfl, (by kernel_rfl), fun _ _ h => h.get rfl⟩) (fun a W hW hsp => by
                        have e134 : a.eval (.tmp 134) = .int .u32 r := (hsp 134 (by kernel_rfl)).get rfl
                        have e138 : a.eval (.tmp 138) = .int .u32 q := (hsp 138 (by kernel_rfl)).get rfl
                        have hd : decide (q ≤ r) = false := decide_eq_false (by omega)
                        refine ⟨.bool false, ?_, sps rfl rfl⟩
                        unfold execOp
                        simp only [e134, e138]
                        go_simp)) (by kernel_rfl) (by rfl)) ?_
                    refine opsK_cons (by
                     exact use_s [] (opOk_run rfl (.inr ⟨22, 126, false, rfl, rfl, (by kernel_rfl), fun _ _ h => h.get rfl⟩) (fun a W hW hsp => by
                        have e129 : a.eval (.tmp 129) = .bool true := (hsp 129 (by kernel_rfl)).get rfl
                        have e139 : a.eval (.tmp 139) = .bool false := (hsp 139 (by kernel_rfl)).get rfl
                        refine ⟨.bool false, ?_, sps rfl rfl⟩
                        unfold execOp
                        simp only [e129, e139]
                        go_simp)) (by kernel_rfl) (by rfl)) ?_
                    refine opsK_cons (by
                     exact use_s [] (opOk_run rfl (.inl rfl) (fun a W hW hsp => by
                        have e126 : a.eval (.tmp 126) = .bool false := (hsp 126 (by kernel_rfl)).get rfl
                        have e140 : a.eval (.tmp 140) = .bool false := (hsp 140 (by kernel_rfl)).get rfl
                        refine ⟨.bool false, ?_, sps rfl rfl⟩
                        unfold execOp
                        simp only [e126, e140]
                        go_simp)) (by kernel_rfl) (by rfl)) ?_
                    exact opsK_nil
                  · intro vs W hb hsp
                    have z := (hsp 141 (by simp)).get rfl
                    simp only [putAll]
                    go_simp
                    go_step
                    go_meet
                    exact ⟨z, Lib.hid hb⟩
              · by_cases hk0 : k = 0
                · subst hk0
                  refine wp_region_use (SPS [(9, Sp.val (.pointer (some ⟨ab, 0, none⟩))), (10, Sp.val (.pointer (some ⟨bb, 0, none⟩))), (18, Sp.val (.slice (some ⟨g, og, none⟩) D.length cg)), (19, Sp.val (.int .i64 ((0 : Nat) : Int))), (21, Sp.val (.bool true)), (107, Sp.val (.agg #[.slice A1 L1.length L1.length])), (108, Sp.ownU wt.heap.size PX), (111, Sp.val (.pointer (some ⟨g, og + 0, none⟩))), (112, Sp.val (.int .u32 q)), (113, Sp.val (.bool false)), (116, Sp.val (.agg #[.slice A2 L2.length L2.length])), (117, Sp.ownU wt.heap.size PY), (120, Sp.val (.pointer (some ⟨g, og + 0, none⟩))), (121, Sp.val (.int .u32 q)), (122, Sp.val (.bool true)), (128, Sp.val (.bool false)), (104, Sp.val (.bool true)), (105, Sp.val (.bool false)), (106, Sp.val (.bool false)), (109, Sp.val (.slice (some ⟨g, og, none⟩) D.length cg)), (110, Sp.val (.int .i64 ((0 : Nat) : Int))), (114, Sp.val (.bool true)), (115, Sp.val (.bool true)), (118, Sp.val (.slice (some ⟨g, og, none⟩) D.length cg)), (119, Sp.val (.int .i64 ((0 : Nat) : Int))), (123, Sp.val (.bool false)), (124, Sp.val (.bool false)), (125, Sp.val (.bool false)), (126, Sp.val (.bool false)), (127, Sp.val (.int .i64 ((0 : Nat) : Int))), (129, Sp.val (.bool false)), (140, Sp.val (.bool false)), (141, Sp.val (.bool false))]) [] [104, 105, 106, 107, 108, 109, 110, 111, 112, 113, 114, 115, 116, 117, 118, 119, 120, 121, 122, 123, 124, 125, 126, 127, 128, 129, 130, 131, 132, 133, 134, 135, 136, 137, 138, 139, 140, 141] rfl (by rfl) (by kernel_rfl) (SPS.st _) (by rfl) ?_ (opsK_all ?_) ?_
                  · exact sps_start (cons_all rfl (cons_all rfl (cons_all rfl (cons_all rfl (cons_all rfl (nil_all))))))
                  · refine opsK_cons (by
                     exact use_s [] (opOk_move rfl rfl (.inl rfl) (by kernel_rfl) (fun _ _ h => sps rfl (h.get rfl))) (by kernel_rfl) (by rfl)) ?_
                    refine opsK_cons (by
                     exact use_s [] (opOk_run rfl (.inl rfl) (fun a W hW hsp => by
                        have e104 : a.eval (.tmp 104) = .bool true := (hsp 104 (by kernel_rfl)).get rfl
                        refine ⟨.bool false, ?_, sps rfl rfl⟩
                        unfold execOp
                        simp only [e104]
                        go_simp)) (by kernel_rfl) (by rfl)) ?_
                    refine opsK_cons (by
                     exact use_s [] (opOk_move rfl rfl (.inl rfl) (by kernel_rfl) (fun _ _ h => sps rfl (h.get rfl))) (by kernel_rfl) (by rfl)) ?_
                    refine opsK_cons (by
                     exact use_s [] (opOk_load (p := ⟨ab, 0, none⟩) rfl rfl (.inr ⟨2, 106, false, rfl, rfl, (by kernel_rfl), fun _ _ h => h.get rfl⟩) (by kernel_rfl) (fun _ _ h => h.get rfl) (fun W hW => by
                        have cc := (HCT.out W hW).1.1
                        exact ⟨.agg #[.slice A1 L1.length L1.length], by go_simp, sps rfl rfl⟩)) (by kernel_rfl) (by rfl)) ?_
                    refine opsK_cons (by
                     exact use_s [] (opOk_callg (fun a => #[a.eval (.tmp 107)]) rfl rfl (.inr ⟨2, 106, false, rfl, rfl, (by kernel_rfl), fun _ _ h => h.get rfl⟩) (fun a => by simp only [List.map_toArray, List.map_cons, List.map_nil] <;> rfl) (fun args W => by go_simp) (fun a W hW hsp => by
                        have e107 : a.eval (.tmp 107) = .agg #[.slice A1 L1.length L1.length] := (hsp 107 (by kernel_rfl)).get rfl
                        simp only [e107]
                        exact (HP1.out wt.heap.size W (HCT.out W hW).2.1 hW.size).mono fun e w' ⟨v, he, hb, ho⟩ => ⟨v, he, hb, sps rfl ho⟩)) (by kernel_rfl) (by rfl)) ?_
                    refine opsK_cons (by
                     exact use_s [] (opOk_move rfl rfl (.inr ⟨2, 106, false, rfl, rfl, (by kernel_rfl), fun _ _ h => h.get rfl⟩) (by kernel_rfl) (fun _ _ h => sps rfl (h.get rfl))) (by kernel_rfl) (by rfl)) ?_
                    refine opsK_cons (by
                     exact use_s [] (opOk_move rfl rfl (.inr ⟨2, 106, false, rfl, rfl, (by kernel_rfl), fun _ _ h => h.get rfl⟩) (by kernel_rfl) (fun _ _ h => sps rfl (h.get rfl))) (by kernel_rfl) (by rfl)) ?_
                    refine opsK_cons (by
                     exact use_s [] (opOk_run rfl (.inr ⟨2, 106, false, rfl, rfl, (by kernel_rfl), fun _ _ h => h.get rfl⟩) (fun a W hW hsp => by
                        have e109 : a.eval (.tmp 109) = .slice (some ⟨g, og, none⟩) D.length cg := (hsp 109 (by kernel_rfl)).get rfl
                        have e110 : a.eval (.tmp 110) = .int .i64 ((0 : Nat) : Int) := (hsp 110 (by kernel_rfl)).get rfl
                        have hlt3 : 0 < D.length := by omega
                        refine ⟨.pointer (some ⟨g, og + 0, none⟩), ?_, sps rfl rfl⟩
                        unfold execOp
                        simp only [e109, e110]
                        go_simp)) (by kernel_rfl) (by rfl)) ?_
                    refine opsK_cons (by
                     exact use_s [] (opOk_load (p := ⟨g, og + 0, none⟩) rfl rfl (.inr ⟨2, 106, false, rfl, rfl, (by kernel_rfl), fun _ _ h => h.get rfl⟩) (by kernel_rfl) (fun _ _ h => h.get rfl) (fun W hW => by
                        have cc := (HCT.out W hW).2.2 0 q HQ.out
                        simp only [Nat.add_zero] at cc
                        exact ⟨.int .u32 q, by go_simp, sps rfl rfl⟩)) (by kernel_rfl) (by rfl)) ?_
                    refine opsK_cons (by
                     exact use_s [] (opOk_callg (fun a => #[a.eval (.tmp 108), a.eval (.tmp 112)]) rfl rfl (.inr ⟨2, 106, false, rfl, rfl, (by kernel_rfl), fun _ _ h => h.get rfl⟩) (fun a => by simp only [List.map_toArray, List.map_cons, List.map_nil] <;> rfl) (fun args W => by go_simp) (fun a W hW hsp => by
                        obtain ⟨A8, c8, hv8, _, hs8⟩ := slU_own ((hsp 108 (by kernel_rfl)).get rfl)
                        have e108 : a.eval (.tmp 108) = .slice A8 PX.length c8 := hv8
                        have e112 : a.eval (.tmp 112) = .int .u32 q := (hsp 112 (by kernel_rfl)).get rfl
                        simp only [e108, e112]
                        refine (la_has PX q A8 c8 W (by omega) hs8).mono ?_
                        rintro e w' ⟨he, rfl⟩
                        rw [hpx] at he
                        exact ⟨_, he, Below.refl _ _, sps rfl rfl⟩)) (by kernel_rfl) (by rfl)) ?_
                    refine opsK_cons (by
                     exact use_s [] (opOk_run rfl (.inr ⟨2, 106, false, rfl, rfl, (by kernel_rfl), fun _ _ h => h.get rfl⟩) (fun a W hW hsp => by
                        have e113 : a.eval (.tmp 113) = .bool false := (hsp 113 (by kernel_rfl)).get rfl
                        refine ⟨.bool true, ?_, sps rfl rfl⟩
                        unfold execOp
                        simp only [e113]
                        go_simp)) (by kernel_rfl) (by rfl)) ?_
                    refine opsK_cons (by
                     exact use_s [] (opOk_move rfl rfl (.inr ⟨2, 106, false, rfl, rfl, (by kernel_rfl), fun _ _ h => h.get rfl⟩) (by kernel_rfl) (fun _ _ h => sps rfl (h.get rfl))) (by kernel_rfl) (by rfl)) ?_
                    refine opsK_cons (by
                     exact use_s [] (opOk_load (p := ⟨bb, 0, none⟩) rfl rfl (.inr ⟨11, 115, true, rfl, rfl, (by kernel_rfl), fun _ _ h => h.get rfl⟩) (by kernel_rfl) (fun _ _ h => h.get rfl) (fun W hW => by
                        have cc := (HCT.out W hW).1.2
                        exact ⟨.agg #[.slice A2 L2.length L2.length], by go_simp, sps rfl rfl⟩)) (by kernel_rfl) (by rfl)) ?_
                    refine opsK_cons (by
                     exact use_s [] (opOk_callg (fun a => #[a.eval (.tmp 116)]) rfl rfl (.inr ⟨11, 115, true, rfl, rfl, (by kernel_rfl), fun _ _ h => h.get rfl⟩) (fun a => by simp only [List.map_toArray, List.map_cons, List.map_nil] <;> rfl) (fun args W => by go_simp) (fun a W hW hsp => by
                        have e116 : a.eval (.tmp 116) = .agg #[.slice A2 L2.length L2.length] := (hsp 116 (by kernel_rfl)).get rfl
                        simp only [e116]
                        exact (HP2.out wt.heap.size W (HCT.out W hW).2.1 hW.size).mono fun e w' ⟨v, he, hb, ho⟩ => ⟨v, he, hb, sps rfl ho⟩)) (by kernel_rfl) (by rfl)) ?_
                    refine opsK_cons (by
                     exact use_s [] (opOk_move rfl rfl (.inr ⟨11, 115, true, rfl, rfl, (by kernel_rfl), fun _ _ h => h.get rfl⟩) (by kernel_rfl) (fun _ _ h => sps rfl (h.get rfl))) (by kernel_rfl) (by rfl)) ?_
                    refine opsK_cons (by
                     exact use_s [] (opOk_move rfl rfl (.inr ⟨11, 115, true, rfl, rfl, (by kernel_rfl), fun _ _ h => h.get rfl⟩) (by kernel_rfl) (fun _ _ h => sps rfl (h.get rfl))) (by kernel_rfl) (by rfl)) ?_
                    refine opsK_cons (by
                     exact use_s [] (opOk_run rfl (.inr ⟨11, 115, true, rfl, rfl, (by kernel_rfl), fun _ _ h => h.get rfl⟩) (fun a W hW hsp => by
                        have e118 : a.eval (.tmp 118) = .slice (some ⟨g, og, none⟩) D.length cg := (hsp 118 (by kernel_rfl)).get rfl
                        have e119 : a.eval (.tmp 119) = .int .i64 ((0 : Nat) : Int) := (hsp 119 (by kernel_rfl)).get rfl
                        have hlt3 : 0 < D.length := by omega
                        refine ⟨.pointer (some ⟨g, og + 0, none⟩), ?_, sps rfl rfl⟩
                        unfold execOp
                        simp only [e118, e119]
                        go_simp)) (by kernel_rfl) (by rfl)) ?_
                    refine opsK_cons (by
                     exact use_s [] (opOk_load (p := ⟨g, og + 0, none⟩) rfl rfl (.inr ⟨11, 115, true, rfl, rfl, (by kernel_rfl), fun _ _ h => h.get rfl⟩) (by kernel_rfl) (fun _ _ h => h.get rfl) (fun W hW => by
                        have cc := (HCT.out W hW).2.2 0 q HQ.out
                        simp only [Nat.add_zero] at cc
                        exact ⟨.int .u32 q, by go_simp, sps rfl rfl⟩)) (by kernel_rfl) (by rfl)) ?_
                    refine opsK_cons (by
                     exact use_s [] (opOk_callg (fun a => #[a.eval (.tmp 117), a.eval (.tmp 121)]) rfl rfl (.inr ⟨11, 115, true, rfl, rfl, (by kernel_rfl), fun _ _ h => h.get rfl⟩) (fun a => by simp only [List.map_toArray, List.map_cons, List.map_nil] <;> rfl) (fun args W => by go_simp) (fun a W hW hsp => by
                        obtain ⟨A9, c9, hv9, _, hs9⟩ := slU_own ((hsp 117 (by kernel_rfl)).get rfl)
                        have e117 : a.eval (.tmp 117) = .slice A9 PY.length c9 := hv9
                        have e121 : a.eval (.tmp 121) = .int .u32 q := (hsp 121 (by kernel_rfl)).get rfl
                        simp only [e117, e121]
                        refine (la_has PY q A9 c9 W (by omega) hs9).mono ?_
                        rintro e w' ⟨he, rfl⟩
                        rw [hpy] at he
                        exact ⟨_, he, Below.refl _ _, sps rfl rfl⟩)) (by kernel_rfl) (by rfl)) ?_
                    refine opsK_cons (by
                     exact use_s [] (opOk_run rfl (.inr ⟨11, 115, true, rfl, rfl, (by kernel_rfl), fun _ _ h => h.get rfl⟩) (fun a W hW hsp => by
                        have e122 : a.eval (.tmp 122) = .bool true := (hsp 122 (by kernel_rfl)).get rfl
                        refine ⟨.bool false, ?_, sps rfl rfl⟩
                        unfold execOp
                        simp only [e122]
                        go_simp)) (by kernel_rfl) (by rfl)) ?_
                    refine opsK_cons (by
                     exact use_s [] (opOk_run rfl (.inr ⟨2, 106, false, rfl, rfl, (by kernel_rfl), fun _ _ h => h.get rfl⟩) (fun a W hW hsp => by
                        have e115 : a.eval (.tmp 115) = .bool true := (hsp 115 (by kernel_rfl)).get rfl
                        have e123 : a.eval (.tmp 123) = .bool false := (hsp 123 (by kernel_rfl)).get rfl
                        refine ⟨.bool false, ?_, sps rfl rfl⟩
                        unfold execOp
                        simp only [e115, e123]
                        go_simp)) (by kernel_rfl) (by rfl)) ?_
                    refine opsK_cons (by
                     exact use_s [] (opOk_run rfl (.inl rfl) (fun a W hW hsp => by
                        have e106 : a.eval (.tmp 106) = .bool false := (hsp 106 (by kernel_rfl)).get rfl
                        have e124 : a.eval (.tmp 124) = .bool false := (hsp 124 (by kernel_rfl)).get rfl
                        refine ⟨.bool false, ?_, sps rfl rfl⟩
                        unfold execOp
                        simp only [e106, e124]
                        go_simp)) (by kernel_rfl) (by rfl)) ?_
                    refine opsK_cons (by
                     exact use_s [] (opOk_move rfl rfl (.inl rfl) (by kernel_rfl) (fun _ _ h => sps rfl (h.get rfl))) (by kernel_rfl) (by rfl)) ?_
                    refine opsK_cons (by
                     exact use_s [] (opOk_move rfl rfl (.inr ⟨22, 126, false, rfl, rfl, (by kernel_rfl), fun _ _ h => h.get rfl⟩) (by kernel_rfl) (fun _ _ h => sps rfl (h.get rfl))) (by kernel_rfl) (by rfl)) ?_
                    refine opsK_cons (by
                     exact use_s [] (opOk_run rfl (.inr ⟨22, 126, false, rfl, rfl, (by kernel_rfl), fun _ _ h => h.get rfl⟩) (fun a W hW hsp => by
                        have e127 : a.eval (.tmp 127) = .int .i64 ((0 : Nat) : Int) := (hsp 127 (by kernel_rfl)).get rfl
                        have hd : decide ((0 : Int) < ((0 : Nat) : Int)) = false := rfl
                        refine ⟨.bool false, ?_, sps rfl rfl⟩
                        unfold execOp
                        simp only [e127]
                        go_simp)) (by kernel_rfl) (by rfl)) ?_
                    refine opsK_cons (by
                     exact use_s [] (opOk_move rfl rfl (.inr ⟨22, 126, false, rfl, rfl, (by kernel_rfl), fun _ _ h => h.get rfl⟩) (by kernel_rfl) (fun _ _ h => sps rfl (h.get rfl))) (by kernel_rfl) (by rfl)) ?_
                    refine opsK_cons (by
                     exact use_skip rfl rfl (by kernel_rfl) (by rfl) (fun _ _ h => h.get rfl) (fun d hd => by cases hd; rfl)) ?_
                    refine opsK_cons (by
                     exact use_skip rfl rfl (by kernel_rfl) (by rfl) (fun _ _ h => h.get rfl) (fun d hd => by cases hd; rfl)) ?_
                    refine opsK_cons (by
                     exact use_skip rfl rfl (by kernel_rfl) (by rfl) (fun _ _ h => h.get rfl) (fun d hd => by cases hd; rfl)) ?_
                    refine opsK_cons (by
                     exact use_skip rfl rfl (by kernel_rfl) (by rfl) (fun _ _ h => h.get rfl) (fun d hd => by cases hd; rfl)) ?_
                    refine opsK_cons (by
                     exact use_skip rfl rfl (by kernel_rfl) (by rfl) (fun _ _ h => h.get rfl) (fun d hd => by cases hd; rfl)) ?_
                    refine opsK_cons (by
                     exact use_skip rfl rfl (by kernel_rfl) (by rfl) (fun _ _ h => h.get rfl) (fun d hd => by cases hd; rfl)) ?_
                    refine opsK_cons (by
                     exact use_skip rfl rfl (by kernel_rfl) (by rfl) (fun _ _ h => h.get rfl) (fun d hd => by cases hd; rfl)) ?_
                    refine opsK_cons (by
                     exact use_skip rfl rfl (by kernel_rfl) (by rfl) (fun _ _ h => h.get rfl) (fun d hd => by cases hd; rfl)) ?_
                    refine opsK_cons (by
                     exact use_skip rfl rfl (by kernel_rfl) (by rfl) (fun _ _ h => h.get rfl) (fun d hd => by cases hd; rfl)) ?_
                    refine opsK_cons (by
                     exact use_skip rfl rfl (by kernel_rfl) (by rfl) (fun _ _ h => h.get rfl) (fun d hd => by cases hd; rfl)) ?_
                    refine opsK_cons (by
                     exact use_s [] (opOk_run rfl (.inr ⟨22, 126, false, rfl, rfl, (by kernel_rfl), fun _ _ h => h.get rfl⟩) (fun a W hW hsp => by
                        have e129 : a.eval (.tmp 129) = .bool false := (hsp 129 (by kernel_rfl)).get rfl
                        refine ⟨.bool false, ?_, sps rfl rfl⟩
                        unfold execOp
                        simp only [e129]
                        go_simp)) (by kernel_rfl) (by rfl)) ?_
                    refine opsK_cons (by
                     exact use_s [] (opOk_run rfl (.inl rfl) (fun a W hW hsp => by
                        have e126 : a.eval (.tmp 126) = .bool false := (hsp 126 (by kernel_rfl)).get rfl
                        have e140 : a.eval (.tmp 140) = .bool false := (hsp 140 (by kernel_rfl)).get rfl
                        refine ⟨.bool false, ?_, sps rfl rfl⟩
                        unfold execOp
                        simp only [e126, e140]
                        go_simp)) (by kernel_rfl) (by rfl)) ?_
                    exact opsK_nil
                  · intro vs W hb hsp
                    have z := (hsp 141 (by simp)).get rfl
                    simp only [putAll]
                    go_simp
                    go_step
                    go_meet
                    exact ⟨z, Lib.hid hb⟩
                · obtain ⟨j, rfl⟩ : ∃ j, k = j + 1 := ⟨k - 1, by omega⟩
                  obtain ⟨r, hr, hrq⟩ := HWU.out j rfl
                  refine wp_region_use (SPS [(9, Sp.val (.pointer (some ⟨ab, 0, none⟩))), (10, Sp.val (.pointer (some ⟨bb, 0, none⟩))), (18, Sp.val (.slice (some ⟨g, og, none⟩) D.length cg)), (19, Sp.val (.int .i64 ((j + 1 : Nat) : Int))), (21, Sp.val (.bool true)), (107, Sp.val (.agg #[.slice A1 L1.length L1.length])), (108, Sp.ownU wt.heap.size PX), (111, Sp.val (.pointer (some ⟨g, og + (j + 1), none⟩))), (112, Sp.val (.int .u32 q)), (113, Sp.val (.bool false)), (116, Sp.val (.agg #[.slice A2 L2.length L2.length])), (117, Sp.ownU wt.heap.size PY), (120, Sp.val (.pointer (some ⟨g, og + (j + 1), none⟩))), (121, Sp.val (.int .u32 q)), (122, Sp.val (.bool true)), (128, Sp.val (.bool true)), (132, Sp.val (.int .i64 j)), (133, Sp.val (.pointer (some ⟨g, og + j, none⟩))), (134, Sp.val (.int .u32 r)), (137, Sp.val (.pointer (some ⟨g, og + (j + 1), none⟩))), (138, Sp.val (.int .u32 q)), (139, Sp.val (.bool false)), (104, Sp.val (.bool true)), (105, Sp.val (.bool false)), (106, Sp.val (.bool false)), (109, Sp.val (.slice (some ⟨g, og, none⟩) D.length cg)), (110, Sp.val (.int .i64 ((j + 1 : Nat) : Int))), (114, Sp.val (.bool true)), (115, Sp.val (.bool true)), (118, Sp.val (.slice (some ⟨g, og, none⟩) D.length cg)), (119, Sp.val (.int .i64 ((j + 1 : Nat) : Int))), (123, Sp.val (.bool false)), (124, Sp.val (.bool false)), (125, Sp.val (.bool false)), (126, Sp.val (.bool false)), (127, Sp.val (.int .i64 ((j + 1 : Nat) : Int))), (129, Sp.val (.bool true)), (130, Sp.val (.slice (some ⟨g, og, none⟩) D.length cg)), (131, Sp.val (.int .i64 ((j + 1 : Nat) : Int))), (135, Sp.val (.slice (some ⟨g, og, none⟩) D.length cg)), (136, Sp.val (.int .i64 ((j + 1 : Nat) : Int))), (140, Sp.val (.bool false)), (141, Sp.val (.bool false))]) [] [104, 105, 106, 107, 108, 109, 110, 111, 112, 113, 114, 115, 116, 117, 118, 119, 120, 121, 122, 123, 124, 125, 126, 127, 128, 129, 130, 131, 132, 133, 134, 135, 136, 137, 138, 139, 140, 141] rfl (by rfl) (by kernel_rfl) (SPS.st _) (by rfl) ?_ (opsK_all ?_) ?_
                  · exact sps_start (cons_all rfl (cons_all rfl (cons_all rfl (cons_all rfl (cons_all rfl (nil_all))))))
                  · refine opsK_cons (by
                     exact use_s [] (opOk_move rfl rfl (.inl rfl) (by kernel_rfl) (fun _ _ h => sps rfl (h.get rfl))) (by kernel_rfl) (by rfl)) ?_
                    refine opsK_cons (by
                     exact use_s [] (opOk_run rfl (.inl rfl) (fun a W hW hsp => by
                        have e104 : a.eval (.tmp 104) = .bool true := (hsp 104 (by kernel_rfl)).get rfl
                        refine ⟨.bool false, ?_, sps rfl rfl⟩
                        unfold execOp
                        simp only [e104]
                        go_simp)) (by kernel_rfl) (by rfl)) ?_
                    refine opsK_cons (by
                     exact use_s [] (opOk_move rfl rfl (.inl rfl) (by kernel_rfl) (fun _ _ h => sps rfl (h.get rfl))) (by kernel_rfl) (by rfl)) ?_
                    refine opsK_cons (by
                     exact use_s [] (opOk_load (p := ⟨ab, 0, none⟩) rfl rfl (.inr ⟨2, 106, false, rfl, rfl, (by kernel_rfl), fun _ _ h => h.get rfl⟩) (by kernel_rfl) (fun _ _ h => h.get rfl) (fun W hW => by
                        have cc := (HCT.out W hW).1.1
                        exact ⟨.agg #[.slice A1 L1.length L1.length], by go_simp, sps rfl rfl⟩)) (by kernel_rfl) (by rfl)) ?_
                    refine opsK_cons (by
                     exact use_s [] (opOk_callg (fun a => #[a.eval (.tmp 107)]) rfl rfl (.inr ⟨2, 106, false, rfl, rfl, (by kernel_rfl), fun _ _ h => h.get rfl⟩) (fun a => by simp only [List.map_toArray, List.map_cons, List.map_nil] <;> rfl) (fun args W => by go_simp) (fun a W hW hsp => by
                        have e107 : a.eval (.tmp 107) = .agg #[.slice A1 L1.length L1.length] := (hsp 107 (by kernel_rfl)).get rfl
                        simp only [e107]
                        exact (HP1.out wt.heap.size W (HCT.out W hW).2.1 hW.size).mono fun e w' ⟨v, he, hb, ho⟩ => ⟨v, he, hb, sps rfl ho⟩)) (by kernel_rfl) (by rfl)) ?_
                    refine opsK_cons (by
                     exact use_s [] (opOk_move rfl rfl (.inr ⟨2, 106, false, rfl, rfl, (by kernel_rfl), fun _ _ h => h.get rfl⟩) (by kernel_rfl) (fun _ _ h => sps rfl (h.get rfl))) (by kernel_rfl) (by rfl)) ?_
                    refine opsK_cons (by
                     exact use_s [] (opOk_move rfl rfl (.inr ⟨2, 106, false, rfl, rfl, (by kernel_rfl), fun _ _ h => h.get rfl⟩) (by kernel_rfl) (fun _ _ h => sps rfl (h.get rfl))) (by kernel_rfl) (by rfl)) ?_
                    refine opsK_cons (by
                     exact use_s [] (opOk_run rfl (.inr ⟨2, 106, false, rfl, rfl, (by kernel_rfl), fun _ _ h => h.get rfl⟩) (fun a W hW hsp => by
                        have e109 : a.eval (.tmp 109) = .slice (some ⟨g, og, none⟩) D.length cg := (hsp 109 (by kernel_rfl)).get rfl
                        have e110 : a.eval (.tmp 110) = .int .i64 ((j + 1 : Nat) : Int) := (hsp 110 (by kernel_rfl)).get rfl
                        have hlt3 : (j + 1) < D.length := by omega
                        refine ⟨.pointer (some ⟨g, og + (j + 1), none⟩), ?_, sps rfl rfl⟩
                        unfold execOp
                        simp only [e109, e110]
                        go_simp
                        intro h
                        exact absurd (h (by omega)) (by omega))) (by kernel_rfl) (by rfl)) ?_
                    refine opsK_cons (by
                     exact use_s [] (opOk_load (p := ⟨g, og + (j + 1), none⟩) rfl rfl (.inr ⟨2, 106, false, rfl, rfl, (by kernel_rfl), fun _ _ h => h.get rfl⟩) (by kernel_rfl) (fun _ _ h => h.get rfl) (fun W hW => by
                        have cc := (HCT.out W hW).2.2 (j + 1) q HQ.out
                        exact ⟨.int .u32 q, by go_simp, sps rfl rfl⟩)) (by kernel_rfl) (by rfl)) ?_
                    refine opsK_cons (by
                     exact use_s [] (opOk_callg (fun a => #[a.eval (.tmp 108), a.eval (.tmp 112)]) rfl rfl (.inr ⟨2, 106, false, rfl, rfl, (by kernel_rfl), fun _ _ h => h.get rfl⟩) (fun a => by simp only [List.map_toArray, List.map_cons, List.map_nil] <;> rfl) (fun args W => by go_simp) (fun a W hW hsp => by
                        obtain ⟨A8, c8, hv8, _, hs8⟩ := slU_own ((hsp 108 (by kernel_rfl)).get rfl)
                        have e108 : a.eval (.tmp 108) = .slice A8 PX.length c8 := hv8
                        have e112 : a.eval (.tmp 112) = .int .u32 q := (hsp 112 (by kernel_rfl)).get rfl
                        simp only [e108, e112]
                        refine (la_has PX q A8 c8 W (by omega) hs8).mono ?_
                        rintro e w' ⟨he, rfl⟩
                        rw [hpx] at he
                        exact ⟨_, he, Below.refl _ _, sps rfl rfl⟩)) (by kernel_rfl) (by rfl)) ?_
                    refine opsK_cons (by
                     exact use_s [] (opOk_run rfl (.inr ⟨2, 106, false, rfl, rfl, (by kernel_rfl), fun _ _ h => h.get rfl⟩) (fun a W hW hsp => by
                        have e113 : a.eval (.tmp 113) = .bool false := (hsp 113 (by kernel_rfl)).get rfl
                        refine ⟨.bool true, ?_, sps rfl rfl⟩
                        unfold execOp
                        simp only [e113]
                        go_simp)) (by kernel_rfl) (by rfl)) ?_
                    refine opsK_cons (by
                     exact use_s [] (opOk_move rfl rfl (.inr ⟨2, 106, false, rfl, rfl, (by kernel_rfl), fun _ _ h => h.get rfl⟩) (by kernel_rfl) (fun _ _ h => sps rfl (h.get rfl))) (by kernel_rfl) (by rfl)) ?_
                    refine opsK_cons (by
                     exact use_s [] (opOk_load (p := ⟨bb, 0, none⟩) rfl rfl (.inr ⟨11, 115, true, rfl, rfl, (by kernel_rfl), fun _ _ h => h.get rfl⟩) (by kernel_rfl) (fun _ _ h => h.get rfl) (fun W hW => by
                        have cc := (HCT.out W hW).1.2
                        exact ⟨.agg #[.slice A2 L2.length L2.length], by go_simp, sps rfl rfl⟩)) (by kernel_rfl) (by rfl)) ?_
                    refine opsK_cons (by
                     exact use_s [] (opOk_callg (fun a => #[a.eval (.tmp 116)]) rfl rfl (.inr ⟨11, 115, true, rfl, rfl, (by kernel_rfl), fun _ _ h => h.get rfl⟩) (fun a => by simp only [List.map_toArray, List.map_cons, List.map_nil] <;> rfl) (fun args W => by go_simp) (fun a W hW hsp => by
                        have e116 : a.eval (.tmp 116) = .agg #[.slice A2 L2.length L2.length] := (hsp 116 (by kernel_rfl)).get rfl
                        simp only [e116]
                        exact (HP2.out wt.heap.size W (HCT.out W hW).2.1 hW.size).mono fun e w' ⟨v, he, hb, ho⟩ => ⟨v, he, hb, sps rfl ho⟩)) (by kernel_rfl) (by rfl)) ?_
                    refine opsK_cons (by
                     exact use_s [] (opOk_move rfl rfl (.inr ⟨11, 115, true, rfl, rfl, (by kernel_rfl), fun _ _ h => h.get rfl⟩) (by kernel_rfl) (fun _ _ h => sps rfl (h.get rfl))) (by kernel_rfl) (by rfl)) ?_
                    refine opsK_cons (by
                     exact use_s [] (opOk_move rfl rfl (.inr ⟨11, 115, true, rfl, rfl, (by kernel_rfl), fun _ _ h => h.get rfl⟩) (by kernel_rfl) (fun _ _ h => sps rfl (h.get rfl))) (by kernel_rfl) (by rfl)) ?_
                    refine opsK_cons (by
                     exact use_s [] (opOk_run rfl (.inr ⟨11, 115, true, rfl, rfl, (by kernel_rfl), fun _ _ h => h.get rfl⟩) (fun a W hW hsp => by
                        have e118 : a.eval (.tmp 118) = .slice (some ⟨g, og, none⟩) D.length cg := (hsp 118 (by kernel_rfl)).get rfl
                        have e119 : a.eval (.tmp 119) = .int .i64 ((j + 1 : Nat) : Int) := (hsp 119 (by kernel_rfl)).get rfl
                        have hlt3 : (j + 1) < D.length := by omega
                        refine ⟨.pointer (some ⟨g, og + (j + 1), none⟩), ?_, sps rfl rfl⟩
                        unfold execOp
                        simp only [e118, e119]
                        go_simp
                        intro h
                        exact absurd (h (by omega)) (by omega))) (by kernel_rfl) (by rfl)) ?_
                    refine opsK_cons (by
                     exact use_s [] (opOk_load (p := ⟨g, og + (j + 1), none⟩) rfl rfl (.inr ⟨11, 115, true, rfl, rfl, (by kernel_rfl), fun _ _ h => h.get rfl⟩) (by kernel_rfl) (fun _ _ h => h.get rfl) (fun W hW => by
                        have cc := (HCT.out W hW).2.2 (j + 1) q HQ.out
                        exact ⟨.int .u32 q, by go_simp, sps rfl rfl⟩)) (by kernel_rfl) (by rfl)) ?_
                    refine opsK_cons (by
                     exact use_s [] (opOk_callg (fun a => #[a.eval (.tmp 117), a.eval (.tmp 121)]) rfl rfl (.inr ⟨11, 115, true, rfl, rfl, (by kernel_rfl), fun _ _ h => h.get rfl⟩) (fun a => by simp only [List.map_toArray, List.map_cons, List.map_nil] <;> rfl) (fun args W => by go_simp) (fun a W hW hsp => by
                        obtain ⟨A9, c9, hv9, _, hs9⟩ := slU_own ((hsp 117 (by kernel_rfl)).get rfl)
                        have e117 : a.eval (.tmp 117) = .slice A9 PY.length c9 := hv9
                        have e121 : a.eval (.tmp 121) = .int .u32 q := (hsp 121 (by kernel_rfl)).get rfl
                        simp only [e117, e121]
                        refine (la_has PY q A9 c9 W (by omega) hs9).mono ?_
                        rintro e w' ⟨he, rfl⟩
                        rw [hpy] at he
                        exact ⟨_, he, Below.refl _ _, sps rfl rfl⟩)) (by kernel_rfl) (by rfl)) ?_
                    refine opsK_cons (by
                     exact use_s [] (opOk_run rfl (.inr ⟨11, 115, true, rfl, rfl, (by kernel_rfl), fun _ _ h => h.get rfl⟩) (fun a W hW hsp => by
                        have e122 : a.eval (.tmp 122) = .bool true := (hsp 122 (by kernel_rfl)).get rfl
                        refine ⟨.bool false, ?_, sps rfl rfl⟩
                        unfold execOp
                        simp only [e122]
                        go_simp)) (by kernel_rfl) (by rfl)) ?_
                    refine opsK_cons (by
                     exact use_s [] (opOk_run rfl (.inr ⟨2, 106, false, rfl, rfl, (by kernel_rfl), fun _ _ h => h.get rfl⟩) (fun a W hW hsp => by
                        have e115 : a.eval (.tmp 115) = .bool true := (hsp 115 (by kernel_rfl)).get rfl
                        have e123 : a.eval (.tmp 123) = .bool false := (hsp 123 (by kernel_rfl)).get rfl
                        refine ⟨.bool false, ?_, sps rfl rfl⟩
                        unfold execOp
                        simp only [e115, e123]
                        go_simp)) (by kernel_rfl) (by rfl)) ?_
                    refine opsK_cons (by
                     exact use_s [] (opOk_run rfl (.inl rfl) (fun a W hW hsp => by
                        have e106 : a.eval (.tmp 106) = .bool false := (hsp 106 (by kernel_rfl)).get rfl
                        have e124 : a.eval (.tmp 124) = .bool false := (hsp 124 (by kernel_rfl)).get rfl
                        refine ⟨.bool false, ?_, sps rfl rfl⟩
                        unfold execOp
                        simp only [e106, e124]
                        go_simp)) (by kernel_rfl) (by rfl)) ?_
                    refine opsK_cons (by
                     exact use_s [] (opOk_move rfl rfl (.inl rfl) (by kernel_rfl) (fun _ _ h => sps rfl (h.get rfl))) (by kernel_rfl) (by rfl)) ?_
                    refine opsK_cons (by
                     exact use_s [] (opOk_move rfl rfl (.inr ⟨22, 126, false, rfl, rfl, (by kernel_rfl), fun _ _ h => h.get rfl⟩) (by kernel_rfl) (fun _ _ h => sps rfl (h.get rfl))) (by kernel_rfl) (by rfl)) ?_
                    refine opsK_cons (by
                     exact use_s [] (opOk_run rfl (.inr ⟨22, 126, false, rfl, rfl, (by kernel_rfl), fun _ _ h => h.get rfl⟩) (fun a W hW hsp => by
                        have e127 : a.eval (.tmp 127) = .int .i64 ((j + 1 : Nat) : Int) := (hsp 127 (by kernel_rfl)).get rfl
                        have hd : decide ((0 : Int) < ((j + 1 : Nat) : Int)) = true := decide_eq_true (by omega)
                        refine ⟨.bool true, ?_, sps rfl rfl⟩
                        unfold execOp
                        simp only [e127]
                        go_simp)) (by kernel_rfl) (by rfl)) ?_
                    refine opsK_cons (by
                     exact use_s [] (opOk_move rfl rfl (.inr ⟨22, 126, false, rfl, rfl, (by kernel_rfl), fun _ _ h => h.get rfl⟩) (by kernel_rfl) (fun _ _ h => sps rfl (h.get rfl))) (by kernel_rfl) (by rfl)) ?_
                    refine opsK_cons (by
                     exact use_s [] (opOk_move rfl rfl (.inr ⟨25, 129, true, rfl, rfl, (by kernel_rfl), fun _ _ h => h.get rfl⟩) (by kernel_rfl) (fun _ _ h => sps rfl (h.get rfl))) (by kernel_rfl) (by rfl)) ?_
                    refine opsK_cons (by
                     exact use_s [] (opOk_move rfl rfl (.inr ⟨25, 129, true, rfl, rfl, (by kernel_rfl), fun _ _ h => h.get rfl⟩) (by kernel_rfl) (fun _ _ h => sps rfl (h.get rfl))) (by kernel_rfl) (by rfl)) ?_
                    refine opsK_cons (by
                     exact use_s [] (opOk_run rfl (.inr ⟨25, 129, true, rfl, rfl, (by kernel_rfl), fun _ _ h => h.get rfl⟩) (fun a W hW hsp => by
                        have e131 : a.eval (.tmp 131) = .int .i64 ((j + 1 : Nat) : Int) := (hsp 131 (by kernel_rfl)).get rfl
                        refine ⟨.int .i64 j, ?_, sps rfl rfl⟩
                        unfold execOp
                        simp only [e131]
                        go_simp
                        rw [IntKind.wrap_i64]
                        omega)) (by kernel_rfl) (by rfl)) ?_
                    refine opsK_cons (by
                     exact use_s [] (opOk_run rfl (.inr ⟨25, 129, true, rfl, rfl, (by kernel_rfl), fun _ _ h => h.get rfl⟩) (fun a W hW hsp => by
                        have e130 : a.eval (.tmp 130) = .slice (some ⟨g, og, none⟩) D.length cg := (hsp 130 (by kernel_rfl)).get rfl
                        have e132 : a.eval (.tmp 132) = .int .i64 j := (hsp 132 (by kernel_rfl)).get rfl
                        have hlt3 : j < D.length := by omega
                        refine ⟨.pointer (some ⟨g, og + j, none⟩), ?_, sps rfl rfl⟩
                        unfold execOp
                        simp only [e130, e132]
                        go_simp)) (by kernel_rfl) (by rfl)) ?_
                    refine opsK_cons (by
                     exact use_s [] (opOk_load (p := ⟨g, og + j, none⟩) rfl rfl (.inr ⟨25, 129, true, rfl, rfl, (by kernel_rfl), fun _ _ h => h.get rfl⟩) (by kernel_rfl) (fun _ _ h => h.get rfl) (fun W hW => by
                        have cc := (HCT.out W hW).2.2 j r hr
                        exact ⟨.int .u32 r, by go_simp, sps rfl rfl⟩)) (by kernel_rfl) (by rfl)) ?_
                    refine opsK_cons (by
                     exact use_s [] (opOk_move rfl rfl (.inr ⟨25, 129, true, rfl, rfl, (by kernel_rfl), fun _ _ h => h.get rfl⟩) (by kernel_rfl) (fun _ _ h => sps rfl (h.get rfl))) (by kernel_rfl) (by rfl)) ?_
                    refine opsK_cons (by
                     exact use_s [] (opOk_move rfl rfl (.inr ⟨25, 129, true, rfl, rfl, (by kernel_rfl), fun _ _ h => h.get rfl⟩) (by kernel_rfl) (fun _ _ h => sps rfl (h.get rfl))) (by kernel_rfl) (by rfl)) ?_
                    refine opsK_cons (by
                     exact use_s [] (opOk_run rfl (.inr ⟨25, 129, true, rfl, rfl, (by kernel_rfl), fun _ _ h => h.get rfl⟩) (fun a W hW hsp => by
                        have e135 : a.eval (.tmp 135) = .slice (some ⟨g, og, none⟩) D.length cg := (hsp 135 (by kernel_rfl)).get rfl
                        have e136 : a.eval (.tmp 136) = .int .i64 ((j + 1 : Nat) : Int) := (hsp 136 (by kernel_rfl)).get rfl
                        have hlt3 : (j + 1) < D.length := by omega
                        refine ⟨.pointer (some ⟨g, og + (j + 1), none⟩), ?_, sps rfl rfl⟩
                        unfold execOp
                        simp only [e135, e136]
                        go_simp
                        intro h
                        exact absurd (h (by omega)) (by omega))) (by kernel_rfl) (by rfl)) ?_
                    refine opsK_cons (by
                     exact use_s [] (opOk_load (p := ⟨g, og + (j + 1), none⟩) rfl rfl (.inr ⟨25, 129, true, rfl, rfl, (by kernel_rfl), fun _ _ h => h.get rfl⟩) (by kernel_rfl) (fun _ _ h => h.get rfl) (fun W hW => by
                        have cc := (HCT.out W hW).2.2 (j + 1) q HQ.out
                        exact ⟨.int .u32 q, by go_simp, sps rfl rfl⟩)) (by kernel_rfl) (by rfl)) ?_
                    refine opsK_cons (by
                     exact use_s [] (opOk_run rfl (.inr ⟨25, 129, true, rfl, rfl, (by kernel_rfl), fun _ _ h => h.get rfl⟩) (fun a W hW hsp => by
                        have e134 : a.eval (.tmp 134) = .int .u32 r := (hsp 134 (by kernel_rfl)).get rfl
                        have e138 : a.eval (.tmp 138) = .int .u32 q := (hsp 138 (by kernel_rfl)).get rfl
                        have hd : decide (q ≤ r) = false := decide_eq_false (by omega)
                        refine ⟨.bool false, ?_, sps rfl rfl⟩
                        unfold execOp
                        simp only [e134, e138]
                        go_simp)) (by kernel_rfl) (by rfl)) ?_
                    refine opsK_cons (by
                     exact use_s [] (opOk_run rfl (.inr ⟨22, 126, false, rfl, rfl, (by kernel_rfl), fun _ _ h => h.get rfl⟩) (fun a W hW hsp => by
                        have e129 : a.eval (.tmp 129) = .bool true := (hsp 129 (by kernel_rfl)).get rfl
                        have e139 : a.eval (.tmp 139) = .bool false := (hsp 139 (by kernel_rfl)).get rfl
                        refine ⟨.bool false, ?_, sps rfl rfl⟩
                        unfold execOp
                        simp only [e129, e139]
                        go_simp)) (by kernel_rfl) (by rfl)) ?_
                    refine opsK_cons (by
                     exact use_s [] (opOk_run rfl (.inl rfl) (fun a W hW hsp => by
                        have e126 : a.eval (.tmp 126) = .bool false := (hsp 126 (by kernel_rfl)).get rfl
                        have e140 : a.eval (.tmp 140) = .bool false := (hsp 140 (by kernel_rfl)).get rfl
                        refine ⟨.bool false, ?_, sps rfl rfl⟩
                        unfold execOp
                        simp only [e126, e140]
                        go_simp)) (by kernel_rfl) (by rfl)) ?_
                    exact opsK_nil
                  · intro vs W hb hsp
                    have z := (hsp 141 (by simp)).get rfl
                    simp only [putAll]
                    go_simp
                    go_step
                    go_meet
                    exact ⟨z, Lib.hid hb⟩
            case rest =>
              obtain ⟨rfl, HX⟩ := hcut
              have HBn := Lib.hid (bTrans HBt.out HX.out)
              go_wp2
              go_roundg (D.length - (k + 1))
              case measure => omega
              case rel => exact ⟨k + 1, by omega, by go_num, HBn⟩
          · obtain rfl : k = D.length := by omega
            obtain ⟨⟨q1, q2⟩, hqb, hsu, _⟩ := HWI.out ws HBs.out
            have HLA := Lib.hid (la_has D p G cg ws (by omega) hsu)
            have HBW := Lib.hid (bTrans HBa.out hqb)
            obtain ⟨b0, hb0⟩ : ∃ z, decide (p ∈ D) = z := ⟨_, rfl⟩
            obtain ⟨b1, hb1⟩ : ∃ z, decide (p ∈ PX) = z := ⟨_, rfl⟩
            obtain ⟨b2, hb2⟩ : ∃ z, decide (p ∈ PY) = z := ⟨_, rfl⟩
            rw [hb0] at HLA
            rw [hb0, hb1, hb2] at HHA
            have HB1 := Lib.hid hb1
            have HB2 := Lib.hid hb2
            clear hsu hb0 hb1 hb2 hk hlt
            go_wp2_with fail
            refine HLA.out.mono ?_
            rintro e wt ⟨rfl, rfl⟩
            cases is with
            | false =>
              have h0 : b0 = false := HHA.out
              subst h0
              go_wp2
              go_ret
              exact ⟨rfl, HBW.out⟩
            | true =>
              go_wp2_with fail
              refine (HP1.out 0 _ hqb (Nat.zero_le _)).mono ?_
              rintro e wu ⟨v, rfl, hbu, hou⟩
              obtain ⟨Au, cu, rfl, _, hsu⟩ := slU_own hou
              have HBU := Lib.hid (bTrans HBs.out hbu)
              have HSU := Lib.hid (la_has PX p Au cu wu (by omega) hsu)
              rw [HB1.out] at HSU
              clear q1 q2 hqb hbu hou hsu
              go_wp2_with fail
              refine HSU.out.mono ?_
              rintro e wu2 ⟨rfl, rfl⟩
              obtain ⟨⟨q1, q2⟩, hqb, _⟩ := HWI.out wu HBU.out
              have HBW2 := Lib.hid (bTrans HBa.out hqb)
              cases b1 with
              | true =>
                have h0 : b0 = true := HHA.out
                subst h0
                go_wp2
                go_ret
                exact ⟨rfl, HBW2.out⟩
              | false =>
                have h0 : b0 = b2 := HHA.out
                subst h0
                go_wp2_with fail
                refine (HP2.out 0 _ hqb (Nat.zero_le _)).mono ?_
                rintro e wy ⟨v, rfl, hby, hoy⟩
                obtain ⟨Ay, cy, rfl, _, hsy⟩ := slU_own hoy
                have HBY := Lib.hid (bTrans HBW2.out hby)
                have HSY := Lib.hid (la_has PY p Ay cy wy (by omega) hsy)
                rw [HB2.out] at HSY
                clear q1 q2 hqb hby hoy hsy
                go_wp2_with fail
                refine HSY.out.mono ?_
                rintro e wy2 ⟨rfl, rfl⟩
                cases b0
                all_goals
                  go_wp2
                  go_ret
                  exact ⟨rfl, HBY.out⟩
end Go.Proofs.YtgheloooibafcaaGreatDoor
