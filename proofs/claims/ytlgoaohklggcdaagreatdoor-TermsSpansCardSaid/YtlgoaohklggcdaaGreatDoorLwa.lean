import Derived.Test.YtlgoaohklggcdaaGreatDoorLtc
/- law16.TermsOf. Printed by gen/mklw16.py. -/
namespace Go.Proofs.YtlgoaohklggcdaaGreatDoor
open Go.RowKit Go.Sort

def spFac (X : Ls) : Sp := ⟨fun v w => ∃ V : Nat → Value, v = .agg #[V 0, V 1, V 2, V 3, V 4] ∧ ∀ i, i < 5 → ∃ A c, V i = .slice A (X.at_ i).length c ∧ Sl encR 5 w w.heap.size A (X.at_ i), fun _ _ _ ⟨V, h1, h2⟩ hb => ⟨V, h1, fun i hi => by
  obtain ⟨A, c, h3, h4⟩ := h2 i hi
  exact ⟨A, c, h3, sl_bel h4 hb⟩⟩⟩
theorem of_near {X : Ls} {F m : Int} (h1 : -25567 ≤ F) (h2 : F ≤ 83432) (h3 : 0 ≤ m) (h4 : m ≤ 399) : ofL X F (F + m) = runsOf (eT X) F (F + m) ∧ ofE F (F + m) = 0 := by
  by_cases hm : m = 0
  · subst hm
    rw [runsOf_nil (by omega)]
    exact ⟨if_pos (by omega), if_pos (by omega)⟩
  · exact of_in (by omega) ⟨by omega, by omega⟩
theorem told_len (l : List Fa) : (tellL [] l).length ≤ l.length := by
  have := tellL_len l []
  simpa using this
theorem told_tx {l : List Fa} (fl : ∀ f ∈ l, FitW f) : ∀ f ∈ tellL [] l, f.tx.size ≤ 1000000 := fun f hf => by
  have h1 := tell_chk l [] (fun _ h => by cases h) f hf
  have h2 : FitW f := tellL_all (p := FitW) (fun _ h => by cases h) fl f hf
  exact (chk_fit h2 h1).tx
theorem lsOf_len (L : List Fa) (pe : Int) (i : Nat) (hi : i < 5) : ((lsOf L pe).at_ i).length ≤ L.length := by rw [lsOf_at L pe hi]; exact chosen_len _ _ _
theorem lsOf_tx {L : List Fa} {pe : Int} (h : ∀ f ∈ L, f.tx.size ≤ 1000000) : ∀ x ∈ (lsOf L pe).d, x.2.tx.size ≤ 1000000 := fun x hx => by
  obtain ⟨i, _, _, h2, _⟩ := mem_chosen hx
  exact h _ (List.mem_of_getElem? h2)
theorem cell13 {X : Ls} {R : List Spn} {k : Nat} {p : Spn} {td : Td} {W : World} {g o : Nat} (hp : R[k]? = some p) (htd : encO X p = (tdC td).toList) (hat : ∀ i x, R[i]? = some x → ∀ j u, (encO X x)[j]? = some u → W.cell? ⟨g, o + i * 13 + j, none⟩ = some u) : W.cell? ⟨g, o + k * 13, none⟩ = some (.int .i64 td.fr) ∧ W.cell? ⟨g, o + k * 13 + 1, none⟩ = some (.int .i64 td.to) ∧ W.cell? ⟨g, o + k * 13 + 2, none⟩ = some (.bool td.em) ∧ W.cell? ⟨g, o + k * 13 + 3, none⟩ = some (.int .i64 td.sa) ∧ W.cell? ⟨g, o + k * 13 + 4, none⟩ = some (.int .i64 td.pa) ∧ W.cell? ⟨g, o + k * 13 + 5, none⟩ = some (.int .i64 (td.h 0)) ∧ W.cell? ⟨g, o + k * 13 + 6, none⟩ = some (.int .i64 (td.h 1)) ∧ W.cell? ⟨g, o + k * 13 + 7, none⟩ = some (.int .i64 (td.h 2)) ∧ W.cell? ⟨g, o + k * 13 + 8, none⟩ = some (.int .i64 (td.h 3)) ∧ W.cell? ⟨g, o + k * 13 + 9, none⟩ = some (.int .i64 (td.h 4)) ∧ W.cell? ⟨g, o + k * 13 + 10, none⟩ = some (.int .i64 (td.h 5)) ∧ W.cell? ⟨g, o + k * 13 + 11, none⟩ = some (.int .i64 (td.h 6)) ∧ W.cell? ⟨g, o + k * 13 + 12, none⟩ = some (.string td.co) := by
  have h := fun j u hu => hat k p hp j u (by rw [htd]; exact hu)
  exact ⟨h 0 _ rfl, h 1 _ rfl, h 2 _ rfl, h 3 _ rfl, h 4 _ rfl, h 5 _ rfl, h 6 _ rfl, h 7 _ rfl, h 8 _ rfl, h 9 _ rfl, h 10 _ rfl, h 11 _ rfl, h 12 _ rfl⟩
set_option maxHeartbeats 8000000 in
set_option maxRecDepth 100000 in
theorem lw_TermsOf (l : List Fa) (A : Option Addr) (ca : Nat) (pe a b : Int) (w : World) (hl : l.length ≤ 9223372036854775807) (fl : ∀ f ∈ l, FitW f) (hL : SlF w A l) (ha : 0 ≤ a ∧ a ≤ 4294967295) (hT : Tb w) (hC : Tab w) :
    Calls Tryz.prog 3 #[.slice A l.length ca, .int .u32 pe, .agg #[.int .u32 a, .int .u32 b]] w fun e w' => e = .returned (.bool true) ∧ Below w.heap.size w w' := by
  have HAW : Hid (∀ W, Below w.heap.size w W → Calls Tryz.prog 16 #[] W fun e w' => e = .returned (.bool true) ∧ Below W.heap.size W w') := Lib.hid fun W hW => la_awake16 W (hT.below hW) (tabBel hC hW)
  obtain ⟨ab, hab⟩ : ∃ z, w.heap.size = z := ⟨_, rfl⟩
  obtain ⟨w2, hw2⟩ : ∃ z, w.alloc (.cells #[.int .u32 a, .int .u32 b] 24) = z := ⟨_, rfl⟩
  have hk2 : Bk ab 24 #[.int .u32 a, .int .u32 b] w2 := by rw [← hw2, ← hab]; exact Bk.new _ _ _
  have hb2 : Below w.heap.size w w2 := by rw [← hw2]; exact bAlloc _ _
  have HB2 := Lib.hid hb2
  have HK2 := Lib.hid hk2
  have HC2 : Hid (Tab w2) := Lib.hid (tabBel hC hb2)
  by_cases h40 : (40 : Int) < (l.length : Int)
  · clear hab hw2 hk2 hb2 hL hT hC fl HK2 HC2
    go_enter Tryz.func3, Tryz.ntmps3
    go_wp2_with fail
    refine (HAW.out _ (bAlloc _ _)).mono ?_
    rintro e w3 ⟨rfl, hb3⟩
    have HF := Lib.hid (bTrans (bAlloc w (.cells #[.int .u32 a, .int .u32 b] 24)) hb3)
    clear hb3
    go_wp2
    go_ret
    exact ⟨rfl, HF.out⟩
  have HTD : Hid (Calls Tryz.prog 17 #[.slice A l.length ca] w2 fun e w' => (∃ A2, e = .returned (.agg #[.slice A2 (tellL [] l).length (tellL [] l).length]) ∧ SlF w' A2 (tellL [] l)) ∧ Below w2.heap.size w2 w') := Lib.hid (la_told16 l A ca w2 (by omega) fl (hL.below hb2) (hT.below hb2))
  obtain ⟨T, hTT⟩ : ∃ T, tellL [] l = T := ⟨_, rfl⟩
  have hTl : T.length ≤ 40 := by rw [← hTT]; have := told_len l; omega
  have HTX : Hid (∀ f ∈ T, f.tx.size ≤ 1000000) := Lib.hid (by rw [← hTT]; exact told_tx fl)
  rw [hTT] at HTD
  obtain ⟨X, hX⟩ : ∃ X, lsOf T pe = X := ⟨_, rfl⟩
  have HXE := Lib.hid hX
  have HXL : Hid (∀ i, i < 5 → (X.at_ i).length ≤ 1000000) := Lib.hid fun i hi => by rw [← hX]; have := lsOf_len T pe i hi; omega
  have HXT : Hid (∀ x ∈ X.d, x.2.tx.size ≤ 1000000) := Lib.hid (by rw [← hX]; exact lsOf_tx HTX.out)
  have HE := Lib.hid (And.intro hab hw2)
  clear hab hw2 hk2 hb2 hL hT hC fl hTT hX
  go_enter Tryz.func3, Tryz.ntmps3
  go_upto_region 1 with fail
  rw [HE.out.1, HE.out.2]
  clear HE
  go_wp2_with fail
  refine HTD.out.mono ?_
  rintro e w3 ⟨⟨A2, rfl, hs3⟩, hb3⟩
  obtain ⟨vb, hvb⟩ : ∃ z, w3.heap.size = z := ⟨_, rfl⟩
  obtain ⟨w4, hw4⟩ : ∃ z, w3.alloc (.cells #[.slice A2 T.length T.length] 27) = z := ⟨_, rfl⟩
  have hb4 : Below w3.heap.size w3 w4 := by rw [← hw4]; exact bAlloc _ _
  have HV4 : Hid (Bk vb 27 #[.slice A2 T.length T.length] w4) := Lib.hid (by rw [← hw4, ← hvb]; exact Bk.new _ _ _)
  have HB4 : Hid (Below w2.heap.size w2 w4) := Lib.hid (bTrans hb3 hb4)
  have HS4 : Hid (SlF w4 A2 T) := Lib.hid (hs3.below hb4)
  have AB0 : w4.cell? ⟨ab, 0, none⟩ = some (.int .u32 a) := bCell HB4.out (HK2.out.cell 0)
  have AB1 : w4.cell? ⟨ab, 1, none⟩ = some (.int .u32 b) := bCell HB4.out (HK2.out.cell 1)
  have HE := Lib.hid (And.intro hvb hw4)
  have HWI := Lib.hid (la_within a (b % 65536) w4 ha (by omega))
  clear hvb hw4 hb3 hb4 hs3 HTD
  go_upto_region 4 with fail
  rw [HE.out.1, HE.out.2]
  clear HE
  go_wp2_with fail
  refine HWI.out.mono ?_
  rintro e w5 ⟨⟨F, m, rfl, hF1, hF2, hm1, hm2⟩, hb5⟩
  obtain ⟨sb, hsb⟩ : ∃ z, w5.heap.size = z := ⟨_, rfl⟩
  obtain ⟨w6, hw6⟩ : ∃ z, w5.alloc (.cells #[.int .i64 F, .int .i64 (F + m)] 31) = z := ⟨_, rfl⟩
  have hb6 : Below w4.heap.size w4 w6 := by rw [← hw6]; exact bTrans hb5 (bAlloc _ _)
  have HP6 : Hid (Bk sb 31 #[.int .i64 F, .int .i64 (F + m)] w6) := Lib.hid (by rw [← hw6, ← hsb]; exact Bk.new _ _ _)
  have HB6 : Hid (Below w4.heap.size w4 w6) := Lib.hid hb6
  have HV6 : Hid (Bk vb 27 #[.slice A2 T.length T.length] w6) := Lib.hid (bk_bel HV4.out hb6)
  have HS6 : Hid (SlF w6 A2 T) := Lib.hid (HS4.out.below hb6)
  obtain ⟨R, hR⟩ : ∃ R, runsOf (eT X) F (F + m) = R := ⟨_, rfl⟩
  have HOF : Hid (Calls Tryz.prog 19 #[.agg #[.slice A2 T.length T.length], .int .u32 pe, .agg #[.int .i64 F, .int .i64 (F + m)]] w6 fun e w' => ∃ A c, e = .returned (.tuple #[.slice A R.length c, .int .i64 0]) ∧ Sl (encO X) 13 w' w'.heap.size A R ∧ Below w6.heap.size w6 w') := Lib.hid (by
    have h := tm_Of T A2 T.length pe F (F + m) w6 (by omega) HS6.out HTX.out (by omega) (by omega) (tabBel (tabBel HC2.out HB4.out) hb6)
    rw [HXE.out, (of_near hF1 hF2 hm1 hm2).1, (of_near (X := X) hF1 hF2 hm1 hm2).2, hR] at h
    refine h.mono fun e w' ⟨⟨A, c, h1, h2⟩, h3⟩ => ?_
    obtain ⟨A', c', e2, _, h4⟩ := own_sl (encO_len X) h2
    injection e2 with e2 _ _
    subst e2
    exact ⟨_, c, h1, h4, h3⟩)
  have HRO : Hid (∀ W (V : Nat → Value), (∀ i, i < 5 → ∃ A c, V i = .slice A (X.at_ i).length c ∧ Sl encR 5 W W.heap.size A (X.at_ i)) → Calls Tryz.prog 20 #[.agg #[V 0, V 1, V 2, V 3, V 4], .agg #[.int .i64 F, .int .i64 (F + m)]] W fun e w' => (∃ A c, e = .returned (.slice A R.length c) ∧ Sl (encO X) 13 w' w'.heap.size A R) ∧ Below W.heap.size W w') := Lib.hid fun W V hV => by
    have h := r16_Of X V F (F + m) W HXL.out HXT.out hV (by omega) (by omega) (by omega) (by omega)
    rwa [hR] at h
  have hRl : R.length ≤ 1000 := by
    rw [← hR]
    have h1 := mrg_len (eT X) (dayP F (F + m - F).toNat) []
    rw [dayP_len] at h1
    simp only [List.length_nil] at h1
    show ((dayP F (F + m - F).toNat).foldl (mrgS (eT X)) []).length ≤ 1000
    omega
  have HE := Lib.hid (And.intro hsb hw6)
  clear hsb hw6 hb5 hb6 hF1 hF2 hm1 hm2 hR HWI AB0 AB1
  go_upto_region 5 with fail
  rw [HE.out.1, HE.out.2]
  clear HE
  have C0 : w6.cell? ⟨vb, 0, none⟩ = some (.slice A2 T.length T.length) := HV6.out.cell 0
  have C1 : w6.cell? ⟨sb, 0, none⟩ = some (.int .i64 F) := HP6.out.cell 0
  have C2 : w6.cell? ⟨sb, 1, none⟩ = some (.int .i64 (F + m)) := HP6.out.cell 1
  go_wp2_with fail
  refine HOF.out.mono ?_
  rintro e w7 ⟨Ag, cg, rfl, hg7, hb7⟩
  have HG7 := Lib.hid hg7
  have HB7 := Lib.hid hb7
  clear hg7 hb7 HOF C0 C1 C2
  go_upto_region 6 with fail
  go_cut [11] from 32 to 36 (fun q wx => (∃ Aw cw, q = .slice Aw R.length cw ∧ Hid (Sl (encO X) 13 wx wx.heap.size Aw R)) ∧ Hid (Below w7.heap.size w7 wx))
  case first =>
    have HC : Hid (∀ W, Below w7.heap.size w7 W → W.cell? ⟨vb, 0, none⟩ = some (.slice A2 T.length T.length) ∧ W.cell? ⟨sb, 0, none⟩ = some (.int .i64 F) ∧ W.cell? ⟨sb, 1, none⟩ = some (.int .i64 (F + m))) := Lib.hid fun W hW => by
      have hz := bTrans HB7.out hW
      exact ⟨bCell hz (HV6.out.cell 0), bCell hz (HP6.out.cell 0), bCell hz (HP6.out.cell 1)⟩
    have HFA : Hid (∀ W, Below w7.heap.size w7 W → Calls Tryz.prog 21 #[.agg #[.slice A2 T.length T.length], .int .u32 pe] W fun e w' => ∃ V : Nat → Value, e = .returned (.agg #[V 0, V 1, V 2, V 3, V 4]) ∧ (∀ i, i < 5 → ∃ A c, V i = .slice A (X.at_ i).length c ∧ Sl encR 5 w' w'.heap.size A (X.at_ i)) ∧ Below W.heap.size W w') := Lib.hid fun W hW => by
      have h := la_facts T A2 T.length pe W (by omega) (HS6.out.below (bTrans HB7.out hW))
      rw [HXE.out] at h
      exact h
    refine wp_region_use (SPS [(7, Sp.val (.pointer (some ⟨vb, 0, none⟩))), (1, Sp.val (.int .u32 pe)), (8, Sp.val (.pointer (some ⟨sb, 0, none⟩))), (32, Sp.val (.agg #[.slice A2 T.length T.length])), (33, Sp.val (.int .u32 pe)), (34, (spFac X)), (35, Sp.val (.agg #[.int .i64 F, .int .i64 (F + m)])), (36, (spSl (encO X) 13 R)), (11, (spSl (encO X) 13 R))]) [] [32, 33, 34, 35, 36, 11] rfl (by rfl) (by kernel_rfl) (SPS.st _) (by rfl) ?_ (opsK_all ?_) ?_
    · exact sps_start (cons_all rfl (cons_all rfl (cons_all rfl (nil_all))))
    · refine opsK_cons (by
       exact use_s [] (opOk_load (p := ⟨vb, 0, none⟩) rfl rfl (.inl rfl) (by kernel_rfl) (fun _ _ h => h.get rfl) (fun W hW => by
          obtain ⟨k0, k1, k2⟩ := HC.out _ hW
          exact ⟨.agg #[.slice A2 T.length T.length], by go_simp, sps rfl rfl⟩)) (by kernel_rfl) (by rfl)) ?_
      refine opsK_cons (by
       exact use_s [] (opOk_move rfl rfl (.inl rfl) (by kernel_rfl) (fun _ _ h => sps rfl (h.get rfl))) (by kernel_rfl) (by rfl)) ?_
      refine opsK_cons (by
       exact use_s [] (opOk_callg (fun a => #[a.eval (.tmp 32), a.eval (.tmp 33)]) rfl rfl (.inl rfl) (fun a => by simp only [List.map_toArray, List.map_cons, List.map_nil] <;> rfl) (fun args W => by go_simp) (fun a W hW hsp => by
          have e32 : a.eval (.tmp 32) = .agg #[.slice A2 T.length T.length] := (hsp 32 (by kernel_rfl)).get rfl
          have e33 : a.eval (.tmp 33) = .int .u32 pe := (hsp 33 (by kernel_rfl)).get rfl
          simp only [e32, e33]
          exact (HFA.out _ hW).mono fun e w' ⟨V, he, hV, hb⟩ => ⟨_, he, hb, sps rfl ⟨V, rfl, hV⟩⟩)) (by kernel_rfl) (by rfl)) ?_
      refine opsK_cons (by
       exact use_s [] (opOk_load (p := ⟨sb, 0, none⟩) rfl rfl (.inl rfl) (by kernel_rfl) (fun _ _ h => h.get rfl) (fun W hW => by
          obtain ⟨k0, k1, k2⟩ := HC.out _ hW
          exact ⟨.agg #[.int .i64 F, .int .i64 (F + m)], by go_simp, sps rfl rfl⟩)) (by kernel_rfl) (by rfl)) ?_
      refine opsK_cons (by
       exact use_s [] (opOk_callg (fun a => #[a.eval (.tmp 34), a.eval (.tmp 35)]) rfl rfl (.inl rfl) (fun a => by simp only [List.map_toArray, List.map_cons, List.map_nil] <;> rfl) (fun args W => by go_simp) (fun a W hW hsp => by
          obtain ⟨V, hv, hV34⟩ := (hsp 34 (by kernel_rfl)).get rfl
          have e34 : a.eval (.tmp 34) = .agg #[V 0, V 1, V 2, V 3, V 4] := hv
          have e35 : a.eval (.tmp 35) = .agg #[.int .i64 F, .int .i64 (F + m)] := (hsp 35 (by kernel_rfl)).get rfl
          simp only [e34, e35]
          exact (HRO.out _ V hV34).mono fun e w' ⟨⟨A, c, he, hs⟩, hb⟩ => ⟨_, he, hb, sps rfl ⟨A, c, rfl, hs⟩⟩)) (by kernel_rfl) (by rfl)) ?_
      refine opsK_cons (by
       exact use_s [] (opOk_assign rfl rfl (.inl rfl) (by kernel_rfl) (fun _ _ h => sps rfl (h.get rfl))) (by kernel_rfl) (by rfl)) ?_
      exact opsK_nil
    · intro vs W3 hb hsp
      obtain ⟨A11, c11, z11, hs11⟩ := (hsp 11 (by simp)).get rfl
      simp only [putAll]
      go_simp
      go_step
      go_meet
      exact ⟨⟨A11, c11, by first | rfl | exact z11, Lib.hid hs11⟩, Lib.hid hb⟩
  case rest =>
  obtain ⟨⟨Aw, cw, rfl, HW8⟩, HB8⟩ := hcut
  obtain ⟨w8, rfl⟩ : ∃ x : World, x = wc := ⟨_, rfl⟩
  have HG8 : Hid (Sl (encO X) 13 w8 w8.heap.size Ag R) := Lib.hid (sl_bel HG7.out HB8.out)
  have HBW : Hid (Below w.heap.size w w8) := Lib.hid (bTrans HB2.out (bTrans HB4.out (bTrans HB6.out (bTrans HB7.out HB8.out))))
  clear HG7 HRO HV6 HP6 HS6 HB7 HB8
  go_wp2
  go_loopw [12] (fun iv wr => ∃ k : Nat, k ≤ R.length ∧ iv = .int .i64 k ∧ Hid (Below w8.heap.size w8 wr)) (fun iv _ => R.length - (intOf iv).toNat)
  case atStart => exact ⟨0, Nat.zero_le _, rfl, Lib.hid (Below.refl _ _)⟩
  case round =>
    obtain ⟨k, hk, rfl, HB⟩ := hrel
    by_cases hlt : k < R.length
    · obtain ⟨p, hp⟩ : ∃ p, R[k]? = some p := ⟨_, List.getElem?_eq_getElem hlt⟩
      obtain ⟨g1, o1, rfl, _, hat1⟩ := HG8.out (by intro h; simp [h] at hlt)
      obtain ⟨g2, o2, rfl, _, hat2⟩ := HW8.out (by intro h; simp [h] at hlt)
      obtain ⟨td, htd⟩ : ∃ td : Td, td = { onX X p.1 with fr := p.1, «to» := p.2 } := ⟨_, rfl⟩
      have henc : encO X p = (tdC td).toList := by rw [htd]; rfl
      have HK : Hid (∀ W, Below wr.heap.size wr W → (W.cell? ⟨g1, o1 + k * 13, none⟩ = some (.int .i64 td.fr) ∧ W.cell? ⟨g1, o1 + k * 13 + 1, none⟩ = some (.int .i64 td.to) ∧ W.cell? ⟨g1, o1 + k * 13 + 2, none⟩ = some (.bool td.em) ∧ W.cell? ⟨g1, o1 + k * 13 + 3, none⟩ = some (.int .i64 td.sa) ∧ W.cell? ⟨g1, o1 + k * 13 + 4, none⟩ = some (.int .i64 td.pa) ∧ W.cell? ⟨g1, o1 + k * 13 + 5, none⟩ = some (.int .i64 (td.h 0)) ∧ W.cell? ⟨g1, o1 + k * 13 + 6, none⟩ = some (.int .i64 (td.h 1)) ∧ W.cell? ⟨g1, o1 + k * 13 + 7, none⟩ = some (.int .i64 (td.h 2)) ∧ W.cell? ⟨g1, o1 + k * 13 + 8, none⟩ = some (.int .i64 (td.h 3)) ∧ W.cell? ⟨g1, o1 + k * 13 + 9, none⟩ = some (.int .i64 (td.h 4)) ∧ W.cell? ⟨g1, o1 + k * 13 + 10, none⟩ = some (.int .i64 (td.h 5)) ∧ W.cell? ⟨g1, o1 + k * 13 + 11, none⟩ = some (.int .i64 (td.h 6)) ∧ W.cell? ⟨g1, o1 + k * 13 + 12, none⟩ = some (.string td.co)) ∧ (W.cell? ⟨g2, o2 + k * 13, none⟩ = some (.int .i64 td.fr) ∧ W.cell? ⟨g2, o2 + k * 13 + 1, none⟩ = some (.int .i64 td.to) ∧ W.cell? ⟨g2, o2 + k * 13 + 2, none⟩ = some (.bool td.em) ∧ W.cell? ⟨g2, o2 + k * 13 + 3, none⟩ = some (.int .i64 td.sa) ∧ W.cell? ⟨g2, o2 + k * 13 + 4, none⟩ = some (.int .i64 td.pa) ∧ W.cell? ⟨g2, o2 + k * 13 + 5, none⟩ = some (.int .i64 (td.h 0)) ∧ W.cell? ⟨g2, o2 + k * 13 + 6, none⟩ = some (.int .i64 (td.h 1)) ∧ W.cell? ⟨g2, o2 + k * 13 + 7, none⟩ = some (.int .i64 (td.h 2)) ∧ W.cell? ⟨g2, o2 + k * 13 + 8, none⟩ = some (.int .i64 (td.h 3)) ∧ W.cell? ⟨g2, o2 + k * 13 + 9, none⟩ = some (.int .i64 (td.h 4)) ∧ W.cell? ⟨g2, o2 + k * 13 + 10, none⟩ = some (.int .i64 (td.h 5)) ∧ W.cell? ⟨g2, o2 + k * 13 + 11, none⟩ = some (.int .i64 (td.h 6)) ∧ W.cell? ⟨g2, o2 + k * 13 + 12, none⟩ = some (.string td.co))) := Lib.hid fun W hW => by
        have hz := bTrans HB.out hW
        exact ⟨cell13 hp henc (fun i x hx j u hu => bCell hz (hat1 i x hx j u hu)), cell13 hp henc (fun i x hx j u hu => bCell hz (hat2 i x hx j u hu))⟩
      have hlt2 : (k : Int) < (R.length : Int) := by omega
      clear hp hat1 hat2 htd henc
      go_upto_region 12 with fail
      go_cut [61] from 52 to 61 (fun q wx => q = .bool false ∧ Hid (Below wr.heap.size wr wx))
      case first =>
          refine wp_region_use (SPS [(9, Sp.val (.slice (some ⟨g1, o1, none⟩) R.length cg)), (11, Sp.val (.slice (some ⟨g2, o2, none⟩) R.length cw)), (12, Sp.val (.int .i64 k)), (52, Sp.val (.slice (some ⟨g1, o1, none⟩) R.length cg)), (53, Sp.val (.int .i64 k)), (54, Sp.val (.pointer (some ⟨g1, o1 + k * 13, none⟩))), (55, Sp.val (.agg #[.int .i64 td.fr, .int .i64 td.to, .bool td.em, .int .i64 td.sa, .int .i64 td.pa, .int .i64 (td.h 0), .int .i64 (td.h 1), .int .i64 (td.h 2), .int .i64 (td.h 3), .int .i64 (td.h 4), .int .i64 (td.h 5), .int .i64 (td.h 6), .string td.co])), (56, Sp.val (.slice (some ⟨g2, o2, none⟩) R.length cw)), (57, Sp.val (.int .i64 k)), (58, Sp.val (.pointer (some ⟨g2, o2 + k * 13, none⟩))), (59, Sp.val (.agg #[.int .i64 td.fr, .int .i64 td.to, .bool td.em, .int .i64 td.sa, .int .i64 td.pa, .int .i64 (td.h 0), .int .i64 (td.h 1), .int .i64 (td.h 2), .int .i64 (td.h 3), .int .i64 (td.h 4), .int .i64 (td.h 5), .int .i64 (td.h 6), .string td.co])), (60, Sp.val (.bool true)), (61, Sp.val (.bool false))]) [] [52, 53, 54, 55, 56, 57, 58, 59, 60, 61] rfl (by rfl) (by kernel_rfl) (SPS.st _) (by rfl) ?_ (opsK_all ?_) ?_
          · exact sps_start (cons_all rfl (cons_all rfl (cons_all rfl (nil_all))))
          · refine opsK_cons (by
             exact use_s [] (opOk_move rfl rfl (.inl rfl) (by kernel_rfl) (fun _ _ h => sps rfl (h.get rfl))) (by kernel_rfl) (by rfl)) ?_
            refine opsK_cons (by
             exact use_s [] (opOk_move rfl rfl (.inl rfl) (by kernel_rfl) (fun _ _ h => sps rfl (h.get rfl))) (by kernel_rfl) (by rfl)) ?_
            refine opsK_cons (by
             exact use_s [] (opOk_run rfl (.inl rfl) (fun a W hW hsp => by
                have e52 : a.eval (.tmp 52) = .slice (some ⟨g1, o1, none⟩) R.length cg := (hsp 52 (by kernel_rfl)).get rfl
                have e53 : a.eval (.tmp 53) = .int .i64 k := (hsp 53 (by kernel_rfl)).get rfl
                refine ⟨.pointer (some ⟨g1, o1 + k * 13, none⟩), ?_, sps rfl rfl⟩
                unfold execOp
                simp only [e52, e53]
                go_simp)) (by kernel_rfl) (by rfl)) ?_
            refine opsK_cons (by
             exact use_s [] (opOk_load (p := ⟨g1, o1 + k * 13, none⟩) rfl rfl (.inl rfl) (by kernel_rfl) (fun _ _ h => h.get rfl) (fun W hW => by
                obtain ⟨⟨k0, k1, k2, k3, k4, k5, k6, k7, k8, k9, k10, k11, k12⟩, m0, m1, m2, m3, m4, m5, m6, m7, m8, m9, m10, m11, m12⟩ := HK.out _ hW
                exact ⟨.agg #[.int .i64 td.fr, .int .i64 td.to, .bool td.em, .int .i64 td.sa, .int .i64 td.pa, .int .i64 (td.h 0), .int .i64 (td.h 1), .int .i64 (td.h 2), .int .i64 (td.h 3), .int .i64 (td.h 4), .int .i64 (td.h 5), .int .i64 (td.h 6), .string td.co], by go_simp, sps rfl rfl⟩)) (by kernel_rfl) (by rfl)) ?_
            refine opsK_cons (by
             exact use_s [] (opOk_move rfl rfl (.inl rfl) (by kernel_rfl) (fun _ _ h => sps rfl (h.get rfl))) (by kernel_rfl) (by rfl)) ?_
            refine opsK_cons (by
             exact use_s [] (opOk_move rfl rfl (.inl rfl) (by kernel_rfl) (fun _ _ h => sps rfl (h.get rfl))) (by kernel_rfl) (by rfl)) ?_
            refine opsK_cons (by
             exact use_s [] (opOk_run rfl (.inl rfl) (fun a W hW hsp => by
                have e56 : a.eval (.tmp 56) = .slice (some ⟨g2, o2, none⟩) R.length cw := (hsp 56 (by kernel_rfl)).get rfl
                have e57 : a.eval (.tmp 57) = .int .i64 k := (hsp 57 (by kernel_rfl)).get rfl
                refine ⟨.pointer (some ⟨g2, o2 + k * 13, none⟩), ?_, sps rfl rfl⟩
                unfold execOp
                simp only [e56, e57]
                go_simp)) (by kernel_rfl) (by rfl)) ?_
            refine opsK_cons (by
             exact use_s [] (opOk_load (p := ⟨g2, o2 + k * 13, none⟩) rfl rfl (.inl rfl) (by kernel_rfl) (fun _ _ h => h.get rfl) (fun W hW => by
                obtain ⟨⟨k0, k1, k2, k3, k4, k5, k6, k7, k8, k9, k10, k11, k12⟩, m0, m1, m2, m3, m4, m5, m6, m7, m8, m9, m10, m11, m12⟩ := HK.out _ hW
                exact ⟨.agg #[.int .i64 td.fr, .int .i64 td.to, .bool td.em, .int .i64 td.sa, .int .i64 td.pa, .int .i64 (td.h 0), .int .i64 (td.h 1), .int .i64 (td.h 2), .int .i64 (td.h 3), .int .i64 (td.h 4), .int .i64 (td.h 5), .int .i64 (td.h 6), .string td.co], by go_simp, sps rfl rfl⟩)) (by kernel_rfl) (by rfl)) ?_
            refine opsK_cons (by
             exact use_s [] (opOk_callg (fun a => #[a.eval (.tmp 55), a.eval (.tmp 59)]) rfl rfl (.inl rfl) (fun a => by simp only [List.map_toArray, List.map_cons, List.map_nil] <;> rfl) (fun args W => by go_simp) (fun a W hW hsp => by
                have e55 : a.eval (.tmp 55) = .agg #[.int .i64 td.fr, .int .i64 td.to, .bool td.em, .int .i64 td.sa, .int .i64 td.pa, .int .i64 (td.h 0), .int .i64 (td.h 1), .int .i64 (td.h 2), .int .i64 (td.h 3), .int .i64 (td.h 4), .int .i64 (td.h 5), .int .i64 (td.h 6), .string td.co] := (hsp 55 (by kernel_rfl)).get rfl
                have e59 : a.eval (.tmp 59) = .agg #[.int .i64 td.fr, .int .i64 td.to, .bool td.em, .int .i64 td.sa, .int .i64 td.pa, .int .i64 (td.h 0), .int .i64 (td.h 1), .int .i64 (td.h 2), .int .i64 (td.h 3), .int .i64 (td.h 4), .int .i64 (td.h 5), .int .i64 (td.h 6), .string td.co] := (hsp 59 (by kernel_rfl)).get rfl
                simp only [e55, e59]
                exact (la_like td _).mono fun e w' ⟨he, hb⟩ => ⟨_, he, hb, sps rfl rfl⟩)) (by kernel_rfl) (by rfl)) ?_
            refine opsK_cons (by
             exact use_s [] (opOk_run rfl (.inl rfl) (fun a W hW hsp => by
                have e60 : a.eval (.tmp 60) = .bool true := (hsp 60 (by kernel_rfl)).get rfl
                refine ⟨.bool false, ?_, sps rfl rfl⟩
                unfold execOp
                simp only [e60]
                go_simp)) (by kernel_rfl) (by rfl)) ?_
            exact opsK_nil
          · intro vs W3 hb hsp
            have z61 := (hsp 61 (by simp)).get rfl
            simp only [putAll]
            go_simp
            go_step
            go_meet
            exact ⟨by first | rfl | exact z61, Lib.hid hb⟩
      case rest =>
      obtain ⟨rfl, HB9⟩ := hcut
      have HBn := Lib.hid (bTrans HB.out HB9.out)
      clear HK HB9
      go_wp2
      exact ⟨⟨k + 1, by omega, by go_num, HBn⟩, by simp [intOf]; omega⟩
    · obtain rfl : k = R.length := by omega
      have HB0 := Lib.hid (bTrans HBW.out HB.out)
      go_wp2_with fail
      refine (HAW.out _ HB0.out).mono ?_
      rintro e w9 ⟨rfl, hb9⟩
      have HF := Lib.hid (bTrans HB0.out hb9)
      clear hb9
      go_wp2
      go_ret
      exact ⟨rfl, HF.out⟩
end Go.Proofs.YtlgoaohklggcdaaGreatDoor
