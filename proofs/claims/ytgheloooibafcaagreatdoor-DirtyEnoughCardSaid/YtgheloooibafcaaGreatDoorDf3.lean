import Derived.Test.YtgheloooibafcaaGreatDoorDa1
import Derived.Test.YtgheloooibafcaaGreatDoorDl1
import Derived.Test.YtgheloooibafcaaGreatDoorOp9
/- The walk of DirtyChain. -/
namespace Go.Proofs.YtgheloooibafcaaGreatDoor
open Go.RowKit Go.Sort

/-- A list of facts, told, in a slice. -/
structure Vw (w : World) (A : Option Addr) (c : Nat) (L : List Fa) : Prop where
  sl : SlF w A L
  len : L.length ≤ 100
  cap : L.length ≤ c
  fit : ∀ f ∈ L, Fit f
  back : Backs L
theorem Vw.below {w w' : World} {A : Option Addr} {c : Nat} {L : List Fa} (h : Vw w A c L) (hb : Below w.heap.size w w') : Vw w' A c L := ⟨h.sl.below hb, h.len, h.cap, h.fit, h.back⟩
theorem fit_small {L : List Fa} (h : smallB L = true) (hw : ∀ f ∈ L, FitW f) : (∀ f ∈ L, Fit f) ∧ L.length ≤ 40 :=
  small_fit h fun f hf => ⟨(hw f hf).id.1, (hw f hf).id.2, (hw f hf).pe.1, (hw f hf).pe.2, (hw f hf).ki, (hw f hf).fr, (hw f hf).tO, (hw f hf).nu⟩
theorem la_toldV (l : List Fa) (A : Option Addr) (ca : Nat) (w : World) (hs : smallB l = true) (fl : ∀ f ∈ l, FitW f) (hL : SlF w A l) (hT : Tb w) :
    Calls Tryz.prog 17 #[.slice A l.length ca] w fun e w' => (∃ A2 c2, e = .returned (.agg #[.slice A2 (tellL [] l).length c2]) ∧ Vw w' A2 c2 (tellL [] l) ∧ (tellL [] l).length ≤ 40) ∧ Below w.heap.size w w' := by
  obtain ⟨hf, hl⟩ := fit_small hs fl
  refine (la_told32 l A ca w hl hf hL hT).mono ?_
  rintro e w' ⟨⟨A2, c2, he, hc, hs2⟩, hb⟩
  have h1 := tellL_len l []
  simp only [List.length_nil] at h1
  exact ⟨⟨A2, c2, he, ⟨hs2, by omega, hc, tellL_all (fun _ h => by cases h) hf, Backs.tell Backs.nil⟩, by omega⟩, hb⟩
theorem at_all {w0 : World} {A : Option Addr} {c : Nat} {L : List Fa} (h : Vw w0 A c L) (W : World) : Calls Tryz.prog 18 #[.agg #[.slice A L.length c], .int .i64 L.length] W fun e w' => e = .returned (.agg #[.slice A L.length L.length]) ∧ Below W.heap.size W w' := by
  have h2 := st_At L A c L.length W (by have := h.len; omega) h.cap
  rw [show atN L (L.length : Int) = L.length by unfold atN; omega] at h2
  exact h2
theorem sinceV {w0 : World} {A B : Option Addr} {ca cb : Nat} {X Y : List Fa} (hX : Vw w0 A ca X) (hY : Vw w0 B cb Y) (p : Int) (W : World) (hW : Below w0.heap.size w0 W) :
    Calls Tryz.prog 22 #[.agg #[.slice A X.length X.length], .agg #[.slice B Y.length Y.length], .int .u32 p] W fun e w' => e = .returned (.tuple #[.int .i64 (sinceL p (changedL X Y)).1, .bool (sinceL p (changedL X Y)).2]) ∧ Below W.heap.size W w' :=
  dy_Since X Y A B X.length Y.length p W (by have := hX.len; omega) (by have := hY.len; omega) (hX.sl.below hW) (hY.sl.below hW) hX.fit hY.fit
theorem chainV {w0 w1 w2 : World} {A B C : Option Addr} {ca cb cc : Nat} {X Y Z : List Fa} (hX : Vw w0 A ca X) (hY : Vw w1 B cb Y) (hZ : Vw w2 C cc Z) {p x y z : Int} {ok is has : Bool} (h1 : sinceL p (changedL X Z) = (x, ok)) (h2 : sinceL p (changedL X Y) = (y, is)) (h3 : sinceL p (changedL Y Z) = (z, has)) : ok = true → (is = true ∧ y ≤ x) ∨ (has = true ∧ z ≤ x) := by
  intro h
  have := since_chain (p := p) (A := X) (B := Y) (C := Z) hX.fit hY.fit hZ.fit (by have := hX.len; omega) (by have := hY.len; omega) (by have := hZ.len; omega) (by rw [h1]; exact h)
  rw [h1, h2, h3] at this
  exact this
theorem bk3s (w : World) (c d e : Array Value) (t : TypeId) {p q r : Nat} {w2 : World} (h1 : w.heap.size = p) (h2 : p + 1 = q) (h3 : q + 1 = r) (hw : ((w.alloc (.cells c t)).alloc (.cells d t)).alloc (.cells e t) = w2) : Bk p t c w2 ∧ Bk q t d w2 ∧ Bk r t e w2 ∧ Below w.heap.size w w2 := bk3 w c d e t t h1 h2 h3 hw
set_option maxHeartbeats 8000000 in
set_option maxRecDepth 100000 in
theorem lw_DChain (l m n : List Fa) (A B C : Option Addr) (ca cb cc : Nat) (p : Int) (w : World) (hl : l.length ≤ 9223372036854775807) (hm : m.length ≤ 9223372036854775807) (hn : n.length ≤ 9223372036854775807) (fl : ∀ f ∈ l, FitW f) (fm : ∀ f ∈ m, FitW f) (fn : ∀ f ∈ n, FitW f) (hL : SlF w A l) (hM : SlF w B m) (hN : SlF w C n) (hT : Tb w) (hC : Tab w) :
    Calls Tryz.prog 5 #[.slice A l.length ca, .slice B m.length cb, .slice C n.length cc, .int .u32 p] w fun e w' => e = .returned (.bool true) ∧ Below w.heap.size w w' := by
  have HAW := Lib.hid (la_awake32 w hT hC)
  have HW : Hid (∀ W, Below w.heap.size w W → Tb W ∧ SlF W A l ∧ SlF W B m ∧ SlF W C n) := Lib.hid fun W hW => ⟨hT.below hW, hL.below hW, hM.below hW, hN.below hW⟩
  have HFL := Lib.hid fl
  have HFM := Lib.hid fm
  have HFN := Lib.hid fn
  have HBl := Lib.hid hl
  have HBm := Lib.hid hm
  have HBn := Lib.hid hn
  clear hL hM hN hT hC fl fm fn hl hm hn
  go_enter Tryz.func5, Tryz.ntmps5
  go_wp2_with fail
  refine HAW.out.mono ?_
  rintro e w3 ⟨rfl, hb3⟩
  have HB3 : Hid (Below w.heap.size w w3) := Lib.hid hb3
  clear hb3 HAW
  go_wp2_with fail
  refine (la_small l A ca w3 HBl.out (HW.out _ HB3.out).2.1).mono ?_
  rintro e w4 ⟨rfl, hb4⟩
  have HB4 := Lib.hid (bTrans HB3.out hb4)
  obtain ⟨s1, hs1⟩ : ∃ z, smallB l = z := ⟨_, rfl⟩
  rw [hs1]
  have HS1 := Lib.hid hs1
  clear hb4 hs1
  cases s1 with
  | false =>
    go_wp2
    go_ret
    exact ⟨rfl, HB4.out⟩
  | true =>
  go_wp2_with fail
  refine (la_small m B cb w4 HBm.out (HW.out _ HB4.out).2.2.1).mono ?_
  rintro e w5 ⟨rfl, hb5⟩
  have HB5 := Lib.hid (bTrans HB4.out hb5)
  obtain ⟨s2, hs2⟩ : ∃ z, smallB m = z := ⟨_, rfl⟩
  rw [hs2]
  have HS2 := Lib.hid hs2
  clear hb5 hs2
  cases s2 with
  | false =>
    go_wp2
    go_ret
    exact ⟨rfl, HB5.out⟩
  | true =>
  go_wp2_with fail
  refine (la_small n C cc w5 HBn.out (HW.out _ HB5.out).2.2.2).mono ?_
  rintro e w6 ⟨rfl, hb6⟩
  have HB6 := Lib.hid (bTrans HB5.out hb6)
  obtain ⟨s3, hs3⟩ : ∃ z, smallB n = z := ⟨_, rfl⟩
  rw [hs3]
  have HS3 := Lib.hid hs3
  clear hb6 hs3
  cases s3 with
  | false =>
    go_wp2
    go_ret
    exact ⟨rfl, HB6.out⟩
  | true =>
  go_wp2_with fail
  refine (la_toldV l A ca w6 HS1.out HFL.out (HW.out _ HB6.out).2.1 (HW.out _ HB6.out).1).mono ?_
  rintro e w7 ⟨⟨A1, c1, rfl, hv7, _⟩, hb7⟩
  have HB7 := Lib.hid (bTrans HB6.out hb7)
  have HV7 := Lib.hid hv7
  clear hb7 hv7
  go_wp2_with fail
  refine (la_toldV m B cb w7 HS2.out HFM.out (HW.out _ HB7.out).2.2.1 (HW.out _ HB7.out).1).mono ?_
  rintro e w8 ⟨⟨A2, c2, rfl, hv8, _⟩, hb8⟩
  have HB8 := Lib.hid (bTrans HB7.out hb8)
  have HV8 := Lib.hid hv8
  have HV78 := Lib.hid (HV7.out.below hb8)
  clear hb8 hv8 HV7
  go_wp2_with fail
  refine (la_toldV n C cc w8 HS3.out HFN.out (HW.out _ HB8.out).2.2.2 (HW.out _ HB8.out).1).mono ?_
  rintro e w9 ⟨⟨A3, c3, rfl, hv9, _⟩, hb9⟩
  have HB9 := Lib.hid (bTrans HB8.out hb9)
  obtain ⟨L1, hL1⟩ : ∃ z, tellL [] l = z := ⟨_, rfl⟩
  obtain ⟨L2, hL2⟩ : ∃ z, tellL [] m = z := ⟨_, rfl⟩
  obtain ⟨L3, hL3⟩ : ∃ z, tellL [] n = z := ⟨_, rfl⟩
  have V1 := Lib.hid (HV78.out.below hb9)
  have V2 := Lib.hid (HV8.out.below hb9)
  have V3 := Lib.hid hv9
  rw [hL1] at V1
  rw [hL2] at V2
  rw [hL3] at V3
  rw [hL1, hL2, hL3]
  clear hb9 hv9 HV78 HV8 hL1 hL2 hL3 HS1 HS2 HS3 HFL HFM HFN HBl HBm HBn
  obtain ⟨sb, hsb⟩ : ∃ x, w9.heap.size = x := ⟨_, rfl⟩
  obtain ⟨tb, htb⟩ : ∃ x, sb + 1 = x := ⟨_, rfl⟩
  obtain ⟨ub, hub⟩ : ∃ x, tb + 1 = x := ⟨_, rfl⟩
  obtain ⟨wa, hwa⟩ : ∃ x, ((w9.alloc (.cells #[.slice A1 L1.length c1] 27)).alloc (.cells #[.slice A2 L2.length c2] 27)).alloc (.cells #[.slice A3 L3.length c3] 27) = x := ⟨_, rfl⟩
  obtain ⟨k1, k2, k3, k4⟩ := bk3s w9 _ _ _ _ hsb htb hub hwa
  have HLD : Hid (∀ W, Below wa.heap.size wa W → W.cell? ⟨sb, 0, none⟩ = some (.slice A1 L1.length c1) ∧ W.cell? ⟨tb, 0, none⟩ = some (.slice A2 L2.length c2) ∧ W.cell? ⟨ub, 0, none⟩ = some (.slice A3 L3.length c3)) := Lib.hid fun W hW => ⟨bCell hW (k1.cell 0), bCell hW (k2.cell 0), bCell hW (k3.cell 0)⟩
  have HBa := Lib.hid (bTrans HB9.out k4)
  have U1 := Lib.hid (V1.out.below k4)
  have U2 := Lib.hid (V2.out.below k4)
  have U3 := Lib.hid (V3.out.below k4)
  have HEa := Lib.hid (And.intro hsb (And.intro htb (And.intro hub hwa)))
  have N1 : Hid (∀ W, Calls Tryz.prog 19 #[.agg #[.slice A1 L1.length c1]] W fun e w' => e = .returned (.int .i64 L1.length) ∧ Below W.heap.size W w') := Lib.hid fun W => st_Len A1 L1.length c1 W
  have N2 : Hid (∀ W, Calls Tryz.prog 19 #[.agg #[.slice A2 L2.length c2]] W fun e w' => e = .returned (.int .i64 L2.length) ∧ Below W.heap.size W w') := Lib.hid fun W => st_Len A2 L2.length c2 W
  have N3 : Hid (∀ W, Calls Tryz.prog 19 #[.agg #[.slice A3 L3.length c3]] W fun e w' => e = .returned (.int .i64 L3.length) ∧ Below W.heap.size W w') := Lib.hid fun W => st_Len A3 L3.length c3 W
  have T1 := Lib.hid (fun W => at_all U1.out W)
  have T2 := Lib.hid (fun W => at_all U2.out W)
  have T3 := Lib.hid (fun W => at_all U3.out W)
  clear k1 k2 k3 k4 hsb htb hub hwa V1 V2 V3 HW
  go_upto_region 6 with fail
  rw [HEa.out.1, HEa.out.2.1, HEa.out.2.2.1, HEa.out.2.2.2]
  clear HEa
  go_cut [12, 13, 14] from 42 to 53 (fun av bv cv wx => ∃ ab bb cb : Nat, av = .pointer (some ⟨ab, 0, none⟩) ∧ bv = .pointer (some ⟨bb, 0, none⟩) ∧ cv = .pointer (some ⟨cb, 0, none⟩) ∧ Hid (Bk ab 29 #[.slice A1 L1.length L1.length] wx ∧ Bk bb 29 #[.slice A2 L2.length L2.length] wx ∧ Bk cb 29 #[.slice A3 L3.length L3.length] wx ∧ Below wa.heap.size wa wx))
  case first =>
    refine wp_region_mk (SPS [(9, Sp.val (.pointer (some ⟨sb, 0, none⟩))), (42, Sp.val (.agg #[.slice A1 L1.length c1])), (43, Sp.val (.agg #[.slice A1 L1.length c1])), (44, Sp.val (.int .i64 L1.length)), (45, Sp.val (.agg #[.slice A1 L1.length L1.length])), (10, Sp.val (.pointer (some ⟨tb, 0, none⟩))), (46, Sp.val (.agg #[.slice A2 L2.length c2])), (47, Sp.val (.agg #[.slice A2 L2.length c2])), (48, Sp.val (.int .i64 L2.length)), (49, Sp.val (.agg #[.slice A2 L2.length L2.length])), (11, Sp.val (.pointer (some ⟨ub, 0, none⟩))), (50, Sp.val (.agg #[.slice A3 L3.length c3])), (51, Sp.val (.agg #[.slice A3 L3.length c3])), (52, Sp.val (.int .i64 L3.length)), (53, Sp.val (.agg #[.slice A3 L3.length L3.length]))]) [⟨12, 15, 12, 45, 29⟩, ⟨13, 16, 13, 49, 29⟩, ⟨14, 17, 14, 53, 29⟩] [42, 43, 44, 45, 46, 47, 48, 49, 50, 51, 52, 53, 12, 13, 14] rfl (by rfl) (by kernel_rfl) (SPS.st _) ?_ ?_ ?_ (by decide) (by rfl) ?_ (opsK_all ?_) ?_
    · exact fun p _ t v w b y x _ _ h => sps_pure (dead := []) (cons_all (.inr fun _ _ _ h => h) (cons_all (.inr fun _ _ _ h => h) (cons_all (.inr fun _ _ _ h => h) (cons_all (.inr fun _ _ _ h => h) (cons_all (.inr fun _ _ _ h => h) (cons_all (.inr fun _ _ _ h => h) (cons_all (.inr fun _ _ _ h => h) (cons_all (.inr fun _ _ _ h => h) (cons_all (.inr fun _ _ _ h => h) (cons_all (.inr fun _ _ _ h => h) (cons_all (.inr fun _ _ _ h => h) (cons_all (.inr fun _ _ _ h => h) (cons_all (.inr fun _ _ _ h => h) (cons_all (.inr fun _ _ _ h => h) (cons_all (.inr fun _ _ _ h => h) (nil_all)))))))))))))))) (by simp) h
    · intro p hp v w s hs
      simp only [List.mem_cons, List.not_mem_nil, or_false] at hp
      rcases hp with rfl | rfl | rfl
      all_goals cases hs
    · intro p hp
      simp only [List.mem_cons, List.not_mem_nil, or_false] at hp
      rcases hp with rfl | rfl | rfl
      all_goals exact ⟨_, rfl, by kernel_rfl, by kernel_rfl⟩
    · exact sps_start (cons_all rfl (cons_all rfl (cons_all rfl (nil_all))))
    · refine opsK_cons (by
       exact kind_n (opOk_load (p := ⟨sb, 0, none⟩) rfl rfl (.inl rfl) (by kernel_rfl) (fun _ _ h => h.get rfl) (fun W hW => by
          have c0 := (HLD.out W hW).1
          exact ⟨.agg #[.slice A1 L1.length c1], by go_simp, sps rfl rfl⟩)) (by decide)) ?_
      refine opsK_cons (by
       exact kind_n (opOk_load (p := ⟨sb, 0, none⟩) rfl rfl (.inl rfl) (by kernel_rfl) (fun _ _ h => h.get rfl) (fun W hW => by
          have c0 := (HLD.out W hW).1
          exact ⟨.agg #[.slice A1 L1.length c1], by go_simp, sps rfl rfl⟩)) (by decide)) ?_
      refine opsK_cons (by
       exact kind_n (opOk_callg (fun a => #[a.eval (.tmp 43)]) rfl rfl (.inl rfl) (fun a => by simp only [List.map_toArray, List.map_cons, List.map_nil] <;> rfl) (fun args W => by go_simp) (fun a W hW hsp => by
          have e43 : a.eval (.tmp 43) = .agg #[.slice A1 L1.length c1] := (hsp 43 (by kernel_rfl)).get rfl
          simp only [e43]
          exact (N1.out W).mono fun e w' ⟨he, hb⟩ => ⟨_, he, hb, sps rfl rfl⟩)) (by decide)) ?_
      refine opsK_cons (by
       exact kind_n (opOk_callg (fun a => #[a.eval (.tmp 42), a.eval (.tmp 44)]) rfl rfl (.inl rfl) (fun a => by simp only [List.map_toArray, List.map_cons, List.map_nil] <;> rfl) (fun args W => by go_simp) (fun a W hW hsp => by
          have e42 : a.eval (.tmp 42) = .agg #[.slice A1 L1.length c1] := (hsp 42 (by kernel_rfl)).get rfl
          have e44 : a.eval (.tmp 44) = .int .i64 L1.length := (hsp 44 (by kernel_rfl)).get rfl
          simp only [e42, e44]
          exact (T1.out W).mono fun e w' ⟨he, hb⟩ => ⟨_, he, hb, sps rfl rfl⟩)) (by decide)) ?_
      refine opsK_cons (by
       exact kind_n (opOk_load (p := ⟨tb, 0, none⟩) rfl rfl (.inl rfl) (by kernel_rfl) (fun _ _ h => h.get rfl) (fun W hW => by
          have c0 := (HLD.out W hW).2.1
          exact ⟨.agg #[.slice A2 L2.length c2], by go_simp, sps rfl rfl⟩)) (by decide)) ?_
      refine opsK_cons (by
       exact kind_n (opOk_load (p := ⟨tb, 0, none⟩) rfl rfl (.inl rfl) (by kernel_rfl) (fun _ _ h => h.get rfl) (fun W hW => by
          have c0 := (HLD.out W hW).2.1
          exact ⟨.agg #[.slice A2 L2.length c2], by go_simp, sps rfl rfl⟩)) (by decide)) ?_
      refine opsK_cons (by
       exact kind_n (opOk_callg (fun a => #[a.eval (.tmp 47)]) rfl rfl (.inl rfl) (fun a => by simp only [List.map_toArray, List.map_cons, List.map_nil] <;> rfl) (fun args W => by go_simp) (fun a W hW hsp => by
          have e47 : a.eval (.tmp 47) = .agg #[.slice A2 L2.length c2] := (hsp 47 (by kernel_rfl)).get rfl
          simp only [e47]
          exact (N2.out W).mono fun e w' ⟨he, hb⟩ => ⟨_, he, hb, sps rfl rfl⟩)) (by decide)) ?_
      refine opsK_cons (by
       exact kind_n (opOk_callg (fun a => #[a.eval (.tmp 46), a.eval (.tmp 48)]) rfl rfl (.inl rfl) (fun a => by simp only [List.map_toArray, List.map_cons, List.map_nil] <;> rfl) (fun args W => by go_simp) (fun a W hW hsp => by
          have e46 : a.eval (.tmp 46) = .agg #[.slice A2 L2.length c2] := (hsp 46 (by kernel_rfl)).get rfl
          have e48 : a.eval (.tmp 48) = .int .i64 L2.length := (hsp 48 (by kernel_rfl)).get rfl
          simp only [e46, e48]
          exact (T2.out W).mono fun e w' ⟨he, hb⟩ => ⟨_, he, hb, sps rfl rfl⟩)) (by decide)) ?_
      refine opsK_cons (by
       exact kind_n (opOk_load (p := ⟨ub, 0, none⟩) rfl rfl (.inl rfl) (by kernel_rfl) (fun _ _ h => h.get rfl) (fun W hW => by
          have c0 := (HLD.out W hW).2.2
          exact ⟨.agg #[.slice A3 L3.length c3], by go_simp, sps rfl rfl⟩)) (by decide)) ?_
      refine opsK_cons (by
       exact kind_n (opOk_load (p := ⟨ub, 0, none⟩) rfl rfl (.inl rfl) (by kernel_rfl) (fun _ _ h => h.get rfl) (fun W hW => by
          have c0 := (HLD.out W hW).2.2
          exact ⟨.agg #[.slice A3 L3.length c3], by go_simp, sps rfl rfl⟩)) (by decide)) ?_
      refine opsK_cons (by
       exact kind_n (opOk_callg (fun a => #[a.eval (.tmp 51)]) rfl rfl (.inl rfl) (fun a => by simp only [List.map_toArray, List.map_cons, List.map_nil] <;> rfl) (fun args W => by go_simp) (fun a W hW hsp => by
          have e51 : a.eval (.tmp 51) = .agg #[.slice A3 L3.length c3] := (hsp 51 (by kernel_rfl)).get rfl
          simp only [e51]
          exact (N3.out W).mono fun e w' ⟨he, hb⟩ => ⟨_, he, hb, sps rfl rfl⟩)) (by decide)) ?_
      refine opsK_cons (by
       exact kind_n (opOk_callg (fun a => #[a.eval (.tmp 50), a.eval (.tmp 52)]) rfl rfl (.inl rfl) (fun a => by simp only [List.map_toArray, List.map_cons, List.map_nil] <;> rfl) (fun args W => by go_simp) (fun a W hW hsp => by
          have e50 : a.eval (.tmp 50) = .agg #[.slice A3 L3.length c3] := (hsp 50 (by kernel_rfl)).get rfl
          have e52 : a.eval (.tmp 52) = .int .i64 L3.length := (hsp 52 (by kernel_rfl)).get rfl
          simp only [e50, e52]
          exact (T3.out W).mono fun e w' ⟨he, hb⟩ => ⟨_, he, hb, sps rfl rfl⟩)) (by decide)) ?_
      refine opsK_cons (by exact kind_alloc ⟨12, 15, 12, 45, 29⟩ (.slice none 0 0) (by simp) rfl rfl rfl (by decide) (by decide) (fun _ _ => run_newV rfl)) ?_
      refine opsK_cons (by exact kind_alloc ⟨13, 16, 13, 49, 29⟩ (.slice none 0 0) (by simp) rfl rfl rfl (by decide) (by decide) (fun _ _ => run_newV rfl)) ?_
      refine opsK_cons (by exact kind_alloc ⟨14, 17, 14, 53, 29⟩ (.slice none 0 0) (by simp) rfl rfl rfl (by decide) (by decide) (fun _ _ => run_newV rfl)) ?_
      refine opsK_cons (by exact kind_store ⟨12, 15, 12, 45, 29⟩ (by simp) rfl rfl rfl (by kernel_rfl) (by kernel_rfl) (by kernel_rfl) (by decide) (fun v w h => ⟨_, _, _, h.get rfl⟩) (fun _ _ _ _ _ _ _ h1 h2 h3 => run_putV rfl h1 h2 h3)) ?_
      refine opsK_cons (by exact kind_store ⟨13, 16, 13, 49, 29⟩ (by simp) rfl rfl rfl (by kernel_rfl) (by kernel_rfl) (by kernel_rfl) (by decide) (fun v w h => ⟨_, _, _, h.get rfl⟩) (fun _ _ _ _ _ _ _ h1 h2 h3 => run_putV rfl h1 h2 h3)) ?_
      refine opsK_cons (by exact kind_store ⟨14, 17, 14, 53, 29⟩ (by simp) rfl rfl rfl (by kernel_rfl) (by kernel_rfl) (by kernel_rfl) (by decide) (fun v w h => ⟨_, _, _, h.get rfl⟩) (fun _ _ _ _ _ _ _ h1 h2 h3 => run_putV rfl h1 h2 h3)) ?_
      exact opsK_nil
    · intro vs W hb hsp hmk
      obtain ⟨vb0, y0, e0, hv0, hy0, z0⟩ := hmk ⟨12, 15, 12, 45, 29⟩ (by simp)
      have q0 : y0 = .slice A1 L1.length L1.length := by have h := z0.symm.trans ((hsp 45).get rfl); simpa using h
      subst q0
      obtain ⟨vb1, y1, e1, hv1, hy1, z1⟩ := hmk ⟨13, 16, 13, 49, 29⟩ (by simp)
      have q1 : y1 = .slice A2 L2.length L2.length := by have h := z1.symm.trans ((hsp 49).get rfl); simpa using h
      subst q1
      obtain ⟨vb2, y2, e2, hv2, hy2, z2⟩ := hmk ⟨14, 17, 14, 53, 29⟩ (by simp)
      have q2 : y2 = .slice A3 L3.length L3.length := by have h := z2.symm.trans ((hsp 53).get rfl); simpa using h
      subst q2
      clear z0 z1 z2 hmk hsp
      simp only [putAll]
      go_simp
      go_step
      go_meet
      exact ⟨vb0, vb1, vb2, rfl, rfl, rfl, Lib.hid ⟨hy0, hy1, hy2, hb⟩⟩
  case rest =>
    obtain ⟨ab, bb, cb, rfl, rfl, rfl, HX⟩ := hcut
    obtain ⟨wv, rfl⟩ : ∃ x : World, x = wc := ⟨_, rfl⟩
    have HVW : Hid (∀ W, Below wv.heap.size wv W → (W.cell? ⟨ab, 0, none⟩ = some (.slice A1 L1.length L1.length) ∧ W.cell? ⟨bb, 0, none⟩ = some (.slice A2 L2.length L2.length) ∧ W.cell? ⟨cb, 0, none⟩ = some (.slice A3 L3.length L3.length)) ∧ Below wa.heap.size wa W) := Lib.hid fun W hW => ⟨⟨bCell hW (HX.out.1.cell 0), bCell hW (HX.out.2.1.cell 0), bCell hW (HX.out.2.2.1.cell 0)⟩, bTrans HX.out.2.2.2 hW⟩
    have HRV : Hid (Below wv.heap.size wv wv) := Lib.hid (Below.refl _ _)
    clear N1 N2 N3 T1 T2 T3 HLD
    obtain ⟨⟨x, ok⟩, h13⟩ : ∃ z, sinceL p (changedL L1 L3) = z := ⟨_, rfl⟩
    obtain ⟨⟨y, is⟩, h12⟩ : ∃ z, sinceL p (changedL L1 L2) = z := ⟨_, rfl⟩
    obtain ⟨⟨z, has⟩, h23⟩ : ∃ z, sinceL p (changedL L2 L3) = z := ⟨_, rfl⟩
    have HCH := Lib.hid (chainV U1.out U2.out U3.out h13 h12 h23)
    have S13 := Lib.hid (fun W hW => sinceV U1.out U3.out p W hW)
    have S12 := Lib.hid (fun W hW => sinceV U1.out U2.out p W hW)
    have S23 := Lib.hid (fun W hW => sinceV U2.out U3.out p W hW)
    rw [h13] at S13
    rw [h12] at S12
    rw [h23] at S23
    simp only at S13 S12 S23
    clear h13 h12 h23 HX U1 U2 U3
    obtain ⟨⟨q1, q2, q3⟩, hqb⟩ := HVW.out wv HRV.out
    go_wp2_with fail
    refine (S13.out _ hqb).mono ?_
    rintro e wf ⟨rfl, hbf⟩
    have HRF := Lib.hid hbf
    clear q1 q2 q3 hqb hbf S13
    obtain ⟨⟨q1, q2, q3⟩, hqb⟩ := HVW.out wf HRF.out
    go_wp2_with fail
    refine (S12.out _ hqb).mono ?_
    rintro e wg ⟨rfl, hbg⟩
    have HRG := Lib.hid (bTrans HRF.out hbg)
    clear q1 q2 q3 hqb hbg S12
    obtain ⟨⟨q1, q2, q3⟩, hqb⟩ := HVW.out wg HRG.out
    go_wp2_with fail
    refine (S23.out _ hqb).mono ?_
    rintro e wh ⟨rfl, hbh⟩
    have HRH : Hid (Below w.heap.size w wh) := Lib.hid (bTrans HBa.out (HVW.out _ (bTrans HRG.out hbh)).2)
    clear q1 q2 q3 hqb hbh S23
    cases ok with
    | false =>
      go_wp2
      go_ret
      exact ⟨rfl, HRH.out⟩
    | true =>
      obtain ⟨d1, hd1⟩ : ∃ b, decide (y ≤ x) = b := ⟨_, rfl⟩
      obtain ⟨d2, hd2⟩ : ∃ b, decide (z ≤ x) = b := ⟨_, rfl⟩
      have HD : Hid ((is && d1 || has && d2) = true) := Lib.hid (by
        rw [← hd1, ← hd2]
        rcases HCH.out rfl with ⟨k1, k2⟩ | ⟨k1, k2⟩
        · rw [k1, decide_eq_true k2]; rfl
        · rw [k1, decide_eq_true k2]; simp)
      cases is <;> cases d1 <;> cases has <;> cases d2
      all_goals
        go_wp2
        go_ret
        exact ⟨ret_b HD.out, HRH.out⟩
end Go.Proofs.YtgheloooibafcaaGreatDoor
