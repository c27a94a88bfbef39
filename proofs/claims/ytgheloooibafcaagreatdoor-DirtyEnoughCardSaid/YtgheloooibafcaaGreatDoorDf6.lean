import Derived.Test.YtgheloooibafcaaGreatDoorDf4
import Derived.Test.YtgheloooibafcaaGreatDoorDp2
import Derived.Test.YtgheloooibafcaaGreatDoorLn2
/- The walk of DirtyEnough. -/
namespace Go.Proofs.YtgheloooibafcaaGreatDoor
open Go.RowKit Go.Sort

theorem wf_u16 {n : Int} (h : (Lit.int .u16 n).wf = true) : 0 ≤ n ∧ n ≤ 65535 := by
  have e1 : IntKind.u16.min = 0 := rfl
  have e2 : IntKind.u16.max = 65535 := rfl
  simp [Lit.wf, e1, e2] at h
  omega
theorem text_eq (a b : ByteArray) : (a.toList == b.toList) = decide (a = b) := by
  rw [toList_ls, toList_ls]
  by_cases h : a = b
  · subst h; simp
  · rw [decide_eq_false h, beq_eq_false_iff_ne]
    exact fun k => h (ls_inj k)
theorem tell_chk : ∀ (l L : List Fa), (∀ x ∈ L, chkF x = 0) → ∀ x ∈ tellL L l, chkF x = 0
  | [], L, h => h
  | f :: l, L, h => by
    rw [tellL_cons]
    refine tell_chk l _ fun x hx => ?_
    rcases addL_or L f with ⟨e, _, he⟩ | ⟨he, _, hc, _, _⟩
    · rw [he] at hx; exact h x hx
    · rw [he] at hx
      rcases List.mem_append.1 hx with hx | hx
      · exact h x hx
      · rw [List.mem_singleton.1 hx]; exact hc
theorem chk_from {f : Fa} (h : chkF f = 0) : -25567 ≤ f.fr ∧ f.fr ≤ 84005 := by
  unfold chkF at h
  split at h
  · cases h
  · split at h
    · cases h
    · split at h
      · rename_i hd; exact absurd h hd
      · rename_i hd
        have hd2 : daysE f = 0 := Decidable.byContradiction hd
        unfold daysE at hd2
        split at hd2
        · cases hd2
        · omega
theorem first_low {f : Fa} (h : chkF f = 0) : -25573 ≤ firstF f ∧ firstF f ≤ 84005 := by
  have := chk_from h
  unfold firstF
  split
  · omega
  · split
    · have := Int.emod_nonneg (f.fr + 25567) (by decide : (7 : Int) ≠ 0)
      have := Int.emod_lt_of_pos (f.fr + 25567) (by decide : (0 : Int) < 7)
      omega
    · omega
theorem since_low {X Y : List Fa} {p : Int} (hX : ∀ f ∈ X, chkF f = 0) (hY : ∀ f ∈ Y, chkF f = 0) : -25573 ≤ (sinceL p (changedL X Y)).1 ∧ (sinceL p (changedL X Y)).1 ≤ 84005 := by
  cases hs : (sinceL p (changedL X Y)).2 with
  | false => rw [since_no hs]; omega
  | true =>
    obtain ⟨x, hx, _, he⟩ := since_mem hs
    rw [← he]
    refine first_low ?_
    rcases List.mem_append.1 (mem_changed.1 hx) with h | h
    · obtain ⟨i, _, h2, _⟩ := mem_chosen_iff.1 (mem_but.1 h).1
      exact hX _ (List.mem_of_getElem? h2)
    · obtain ⟨i, _, h2, _⟩ := mem_chosen_iff.1 (mem_but.1 h).1
      exact hY _ (List.mem_of_getElem? h2)
theorem own_take {co : ByteArray} {d : Int} {X : List Kn} {k : Nat} {x : Kn} (h : X[k]? = some x) : ownL co d (X.take (k + 1)) = ownL co d (X.take k) ++ (if (decide (x.2.co = co) && coverB x.2 d) = true then [x] else []) := by
  unfold ownL
  rw [List.take_add_one, h, List.filter_append]
  congr 1
  show List.filter _ [x] = _
  rw [List.filter_cons]
  rfl
theorem own_len (co : ByteArray) (d : Int) (X : List Kn) : (ownL co d X).length ≤ X.length := List.length_filter_le _ _
set_option maxHeartbeats 4000000 in
set_option maxRecDepth 100000 in
theorem la_at32 (X : List Kn) (co : ByteArray) (d : Int) (A : Option Addr) (cap : Nat) (w : World) (hn : X.length ≤ 100000) (hs : SlK1 w A X) (fX : ∀ x ∈ X, Fit x.2) (hT : Tb w) :
    Calls Tryz.prog 33 #[.slice A X.length cap, .string co, .int .i64 d] w fun e w' => e = .returned (.tuple #[.agg #[.int .i64 (valL (ownL co d X) (plc (ownL co d X) d (ownL co d X).length)).1, .int .i64 (valL (ownL co d X) (plc (ownL co d X) d (ownL co d X).length)).2.1, .string (valL (ownL co d X) (plc (ownL co d X) d (ownL co d X).length)).2.2], .bool (decide (0 ≤ plc (ownL co d X) d (ownL co d X).length))]) ∧ Below w.heap.size w w' := by
  obtain ⟨rb, hrb⟩ : ∃ x, w.heap.size = x := ⟨_, rfl⟩
  obtain ⟨w2, hw2⟩ : ∃ x, w.alloc (.cells #[.int .i64 0, .int .i64 0, .string ⟨#[]⟩] 67) = x := ⟨_, rfl⟩
  have k2 : Bk rb 67 #[.int .i64 0, .int .i64 0, .string ⟨#[]⟩] w2 := by rw [← hw2, ← hrb]; exact Bk.new _ _ _
  have k3 : Below w.heap.size w w2 := by rw [← hw2]; exact bAlloc _ _
  have HB2 := Lib.hid k3
  have HRW : Hid (w.heap.size ≤ rb) := Lib.hid (by omega)
  have HC : Hid (∀ W, Below w2.heap.size w2 W → SlK1 W A X ∧ Tb W ∧ Bk rb 67 #[.int .i64 0, .int .i64 0, .string ⟨#[]⟩] W) := Lib.hid fun W hW => ⟨sl_bel hs (bTrans k3 hW), hT.below (bTrans k3 hW), (hW.block rb k2.lt).trans k2⟩
  have HF := Lib.hid fX
  have HE2 := Lib.hid (And.intro hrb hw2)
  obtain ⟨O, hO⟩ : ∃ O, ownL co d X = O := ⟨_, rfl⟩
  rw [hO]
  have HO := Lib.hid hO
  obtain ⟨q, hq⟩ : ∃ q, plc O d O.length = q := ⟨_, rfl⟩
  rw [hq]
  obtain ⟨v1, hv1⟩ : ∃ z, (valL O q).1 = z := ⟨_, rfl⟩
  obtain ⟨v2, hv2⟩ : ∃ z, (valL O q).2.1 = z := ⟨_, rfl⟩
  obtain ⟨v3, hv3⟩ : ∃ z, (valL O q).2.2 = z := ⟨_, rfl⟩
  rw [hv1, hv2, hv3]
  have HVV := Lib.hid (And.intro hq (And.intro hv1 (And.intro hv2 hv3)))
  clear hs hrb hw2 k2 k3 hT fX hO hq hv1 hv2 hv3
  go_enter Tryz.func33, Tryz.ntmps33
  go_upto_region 1 with fail
  rw [HE2.out.1, HE2.out.2]
  clear HE2
  go_wp2
  go_loopw [8, 9] (fun ov iv wr => ∃ k : Nat, k ≤ X.length ∧ iv = .int .i64 k ∧ Hid (OwnK w2.heap.size ov (ownL co d (X.take k)) wr) ∧ Hid (Below w2.heap.size w2 wr)) (fun _ iv _ => X.length - (intOf iv).toNat)
  case atStart => exact ⟨0, Nat.zero_le _, rfl, Lib.hid (Own.nil _), Lib.hid (Below.refl _ _)⟩
  case round =>
    obtain ⟨k, hk, rfl, HOW, HB⟩ := hrel
    by_cases hlt : k < X.length
    · obtain ⟨x, hx⟩ : ∃ x, X[k]? = some x := ⟨_, List.getElem?_eq_getElem hlt⟩
      obtain ⟨hsl, htb, _⟩ := HC.out wr HB.out
      obtain ⟨b, off, rfl, hbl, hat⟩ := hsl (by intro h; simp [h] at hlt)
      obtain ⟨G0, G1, G2, G3, G4, G5, G6, G7, G8⟩ := kcells (hat k x hx)
      have HKC : Hid (∀ W, Below wr.heap.size wr W → ∀ j u, (encK x)[j]? = some u → W.cell? ⟨b, off + k * 9 + j, none⟩ = some u) := Lib.hid fun W hW j u hu => bCell hW (hat k x hx j u hu)
      have hlt2 : (k : Int) < (X.length : Int) := by omega
      have HTK := Lib.hid (own_take (co := co) (d := d) hx)
      have HCV := Lib.hid (fc_Covers x.2 d wr (HF.out x (List.mem_of_getElem? hx)) htb)
      unfold FA at HCV
      have HLE : (ownL co d (X.take k)).length + 1 ≤ 1000000000 := by have := own_len co d (X.take k); rw [List.length_take] at this; omega
      obtain ⟨D, hD⟩ : ∃ D, ownL co d (X.take k) = D := ⟨_, rfl⟩
      rw [hD] at HOW HTK HLE
      obtain ⟨e, he⟩ : ∃ z, (x.2.co.toList == co.toList) = z := ⟨_, rfl⟩
      rw [← text_eq, he] at HTK
      obtain ⟨cv, hcv⟩ : ∃ z, coverB x.2 d = z := ⟨_, rfl⟩
      rw [hcv] at HTK HCV
      clear hat hsl htb hx hD hcv
      cases e with
      | false =>
        have HC3 : Hid (ownL co d (X.take (k + 1)) = D) := Lib.hid (by rw [HTK.out, if_neg (by simp), List.append_nil])
        go_wp2
        exact ⟨⟨k + 1, by omega, by go_num, Lib.hid (by rw [HC3.out]; exact HOW.out), HB⟩, by simp [intOf]; omega⟩
      | true =>
        go_wp2_with fail
        refine HCV.out.mono ?_
        rintro e w5 ⟨rfl, hb5⟩
        have HB5 := Lib.hid (bTrans HB.out hb5)
        have HO5 := Lib.hid (own_bel HOW.out hb5)
        have HZ5 : Hid (w2.heap.size ≤ w5.heap.size) := Lib.hid HB5.out.size
        have hkc := HKC.out w5 hb5
        clear hb5 HCV G0 G1 G2 G3 G4 G5 G6 G7 G8 he
        cases cv with
        | false =>
          have HC3 : Hid (ownL co d (X.take (k + 1)) = D) := Lib.hid (by rw [HTK.out, if_neg (by simp), List.append_nil])
          clear hkc
          go_wp2
          exact ⟨⟨k + 1, by omega, by go_num, Lib.hid (by rw [HC3.out]; exact HO5.out), HB5⟩, by simp [intOf]; omega⟩
        | true =>
          have HC3 : Hid (ownL co d (X.take (k + 1)) = D ++ [x]) := Lib.hid (by rw [HTK.out]; rfl)
          obtain ⟨G0, G1, G2, G3, G4, G5, G6, G7, G8⟩ := kcells hkc
          clear hkc
          go_wp2_with ((at_builtin; refine wpList_append_row encK_len encK_one rfl _ _ 32 rfl w2.heap.size 41 _ 80 Tryz.underlying32 knownInfo rfl (by decide) _ D x rfl (HO5.out.alloc _) w5.heap.size 1 rfl (newsK x w5) HLE (by decide) (Nat.le_trans HZ5.out (Grows.of_alloc _ _).size) ?_))
          intro v7 w7 hown7 hgr7
          have HB7 : Hid (Below w2.heap.size w2 w7) := Lib.hid (bel_own (bTrans HB5.out (bAlloc w5 _)) (Nat.le_trans HZ5.out (Grows.of_alloc _ _).size) (HO5.out.alloc _) hgr7)
          have HO7 : Hid (OwnK w2.heap.size v7 (ownL co d (X.take (k + 1))) w7) := Lib.hid (by rw [HC3.out]; exact hown7)
          clear hown7 hgr7 G0 G1 G2 G3 G4 G5 G6 G7 G8
          go_wp2
          exact ⟨⟨k + 1, by omega, by go_num, HO7, HB7⟩, by simp [intOf]; omega⟩
    · obtain rfl : k = X.length := by omega
      rw [List.take_length, HO.out] at HOW
      have hol : O.length ≤ 100000 := by rw [← HO.out]; have := own_len co d X; omega
      obtain ⟨E, ce, rfl, _, hse⟩ := own_sl encK_len HOW.out
      have HOF := Lib.hid (li_Of O E ce wr (by omega) hse)
      clear hse HOW
      go_wp2_with fail
      refine HOF.out.mono ?_
      rintro e w5 ⟨⟨E2, ce2, rfl, ho5⟩, hb5⟩
      obtain ⟨E3, ce3, e3, _, hs5⟩ := own_sl encK_len ho5
      injection e3 with e31 e32 e33
      subst e31
      have HB5 := Lib.hid (bTrans HB.out hb5)
      have hat := li_At O d E2 ce2 w5 (by omega) hs5
      rw [HVV.out.1, HVV.out.2.1, HVV.out.2.2.1, HVV.out.2.2.2] at hat
      have HAT := Lib.hid hat
      clear ho5 hs5 hb5 hat e33 HOF
      go_wp2_with fail
      refine HAT.out.mono ?_
      rintro e w6 ⟨rfl, hb6⟩
      have HB6 := Lib.hid (bTrans HB5.out hb6)
      clear hb6 HAT
      obtain ⟨_, _, hr4⟩ := HC.out w6 HB6.out
      have R0 : w6.cell? ⟨rb, 0, none⟩ = some (.int .i64 0) := hr4.cell 0
      have R1 : w6.cell? ⟨rb, 1, none⟩ = some (.int .i64 0) := hr4.cell 1
      have R2 : w6.cell? ⟨rb, 2, none⟩ = some (.string ⟨#[]⟩) := hr4.cell 2
      have S0 : w6.frozen? ⟨rb, 0, none⟩ = false := hr4.frozen 0
      have S1 : w6.frozen? ⟨rb, 1, none⟩ = false := hr4.frozen 1
      have S2 : w6.frozen? ⟨rb, 2, none⟩ = false := hr4.frozen 2
      obtain ⟨wz, hwz⟩ : ∃ z, ((w6.setCell ⟨rb, 0, none⟩ (.int .i64 v1)).setCell ⟨rb, 1, none⟩ (.int .i64 v2)).setCell ⟨rb, 2, none⟩ (.string v3) = z := ⟨_, rfl⟩
      have hz := ((hr4.set_ 0 (.int .i64 v1)).set_ 1 (.int .i64 v2)).set_ 2 (.string v3)
      have HFIN : Hid (Below w.heap.size w wz) := Lib.hid (by rw [← hwz]; exact (((bTrans HB2.out HB6.out).setCell (p := ⟨rb, 0, none⟩) HRW.out _).setCell (p := ⟨rb, 1, none⟩) HRW.out _).setCell (p := ⟨rb, 2, none⟩) HRW.out _)
      rw [hwz] at hz
      have z0 : wz.cell? ⟨rb, 0, none⟩ = some (.int .i64 v1) := hz.cell 0
      have z1 : wz.cell? ⟨rb, 1, none⟩ = some (.int .i64 v2) := hz.cell 1
      have z2 : wz.cell? ⟨rb, 2, none⟩ = some (.string v3) := hz.cell 2
      clear hz hr4
      go_wp2
      exact bodyPost_ret (v := .tuple #[.agg #[.int .i64 v1, .int .i64 v2, .string v3], .bool (decide (0 ≤ q))]) (by simp [results, Tryz.results33, go_sem, z0, z1, z2]) rfl ⟨rfl, HFIN.out⟩
theorem run_neV (a b : Int) (s : ByteArray) (w : World) : (binOp .neq 67 (.agg #[.int .i64 a, .int .i64 b, .string s]) (.agg #[.int .i64 a, .int .i64 b, .string s])).run Tryz.prog w = .ok (.bool false) w := by
  go_simp
theorem atV {w0 : World} {A : Option Addr} {ca : Nat} {X : List Fa} (hX : Vw w0 A ca X) (pe ki : Int) (W : World) (hW : Below w0.heap.size w0 W) :
    Calls Tryz.prog 34 #[.agg #[.slice A X.length X.length], .int .u32 pe, .int .i64 ki] W fun e w' => (∃ C cc, e = .returned (.slice C (chosen (ofPK pe ki) X X.length).length cc) ∧ SlK1 w' C (chosen (ofPK pe ki) X X.length)) ∧ Below W.heap.size W w' := by
  refine (vi_Facts X A X.length pe ki W (by have := hX.len; omega) (hX.sl.below hW)).mono ?_
  rintro e w' ⟨⟨v, he, ho⟩, hb⟩
  obtain ⟨C, cc, rfl, _, hs⟩ := own_sl encK_len ho
  exact ⟨⟨C, cc, he, hs⟩, hb⟩
set_option maxHeartbeats 8000000 in
set_option maxRecDepth 100000 in
theorem lw_DEnough (l m : List Fa) (A B : Option Addr) (ca cb : Nat) (p ki : Int) (co : ByteArray) (bk : Int) (w : World) (hbk : 0 ≤ bk ∧ bk ≤ 65535) (hl : l.length ≤ 9223372036854775807) (hm : m.length ≤ 9223372036854775807) (fl : ∀ f ∈ l, FitW f) (fm : ∀ f ∈ m, FitW f) (hL : SlF w A l) (hM : SlF w B m) (hT : Tb w) (hC : Tab w) :
    Calls Tryz.prog 8 #[.slice A l.length ca, .slice B m.length cb, .int .u32 p, .int .i64 ki, .string co, .int .u16 bk] w fun e w' => e = .returned (.bool true) ∧ Below w.heap.size w w' := by
  have HAW := Lib.hid (la_awake32 w hT hC)
  have HW : Hid (∀ W, Below w.heap.size w W → Tb W ∧ SlF W A l ∧ SlF W B m) := Lib.hid fun W hW => ⟨hT.below hW, hL.below hW, hM.below hW⟩
  have HTW : Hid (∀ W, Below w.heap.size w W → Tb W) := Lib.hid fun W hW => hT.below hW
  have HFL := Lib.hid fl
  have HFM := Lib.hid fm
  have HBl := Lib.hid hl
  have HBm := Lib.hid hm
  have hbk1 := hbk.1
  have hbk2 := hbk.2
  clear hL hM hT hC fl fm hl hm hbk
  go_enter Tryz.func8, Tryz.ntmps8
  go_wp2_with fail
  refine HAW.out.mono ?_
  rintro e w3 ⟨rfl, hb3⟩
  have HB3 : Hid (Below w.heap.size w w3) := Lib.hid hb3
  clear hb3 HAW
  go_wp2_with fail
  refine (la_small l A ca w3 HBl.out (HW.out _ HB3.out).2.1).mono ?_
  rintro e w4 ⟨rfl, hb4⟩
  have HB4 := Lib.hid (bTrans HB3.out hb4)
  obtain ⟨s1, hs1⟩ : ∃ z, smallB l = z := ⟨_, rfl⟩
  rw [hs1]
  have HS1 := Lib.hid hs1
  clear hb4 hs1
  cases s1 with
  | false =>
    go_wp2
    go_ret
    exact ⟨rfl, HB4.out⟩
  | true =>
  go_wp2_with fail
  refine (la_small m B cb w4 HBm.out (HW.out _ HB4.out).2.2).mono ?_
  rintro e w5 ⟨rfl, hb5⟩
  have HB5 := Lib.hid (bTrans HB4.out hb5)
  obtain ⟨s2, hs2⟩ : ∃ z, smallB m = z := ⟨_, rfl⟩
  rw [hs2]
  have HS2 := Lib.hid hs2
  clear hb5 hs2
  cases s2 with
  | false =>
    go_wp2
    go_ret
    exact ⟨rfl, HB5.out⟩
  | true =>
  by_cases g1 : (300 : Int) < (co.size : Int)
  · have d1 : decide ((300 : Int) < (co.size : Int)) = true := decide_eq_true g1
    go_wp2
    go_ret
    exact ⟨rfl, HB5.out⟩
  have d1 : decide ((300 : Int) < (co.size : Int)) = false := decide_eq_false g1
  by_cases g2 : ki = 13
  · have d2 : (ki == 13) = true := beq_iff_eq.2 g2
    clear g2
    go_wp2
    go_ret
    exact ⟨rfl, HB5.out⟩
  have d2 : (ki == 13) = false := beq_eq_false_iff_ne.2 g2
  by_cases g3 : ki = 17
  · have d3 : (ki == 17) = true := beq_iff_eq.2 g3
    clear g3
    go_wp2
    go_ret
    exact ⟨rfl, HB5.out⟩
  have d3 : (ki == 17) = false := beq_eq_false_iff_ne.2 g3
  by_cases g4 : ki = 18
  · have d4 : (ki == 18) = true := beq_iff_eq.2 g4
    clear g4
    go_wp2
    go_ret
    exact ⟨rfl, HB5.out⟩
  have d4 : (ki == 18) = false := beq_eq_false_iff_ne.2 g4
  have HKI := Lib.hid (And.intro g2 (And.intro g3 g4))
  clear g1 g2 g3 g4
  have HQ1 : Hid (∀ x ∈ tellL [] l, chkF x = 0) := Lib.hid (tell_chk l [] (fun _ h => by cases h))
  have HQ2 : Hid (∀ x ∈ tellL [] m, chkF x = 0) := Lib.hid (tell_chk m [] (fun _ h => by cases h))
  go_wp2_with fail
  refine (la_toldV l A ca w5 HS1.out HFL.out (HW.out _ HB5.out).2.1 (HW.out _ HB5.out).1).mono ?_
  rintro e w7 ⟨⟨A1, c1, rfl, hv7, hl1⟩, hb7⟩
  have HB7 := Lib.hid (bTrans HB5.out hb7)
  have HV7 := Lib.hid hv7
  clear hb7 hv7
  go_wp2_with fail
  refine (la_toldV m B cb w7 HS2.out HFM.out (HW.out _ HB7.out).2.2 (HW.out _ HB7.out).1).mono ?_
  rintro e w9 ⟨⟨A2, c2, rfl, hv9, hl2⟩, hb9⟩
  have HB9 := Lib.hid (bTrans HB7.out hb9)
  obtain ⟨L1, hL1⟩ : ∃ z, tellL [] l = z := ⟨_, rfl⟩
  obtain ⟨L2, hL2⟩ : ∃ z, tellL [] m = z := ⟨_, rfl⟩
  have V1 := Lib.hid (HV7.out.below hb9)
  have V2 := Lib.hid hv9
  rw [hL1] at V1 hl1 HQ1
  rw [hL2] at V2 hl2 HQ2
  rw [hL1, hL2]
  clear hb9 hv9 HV7 hL1 hL2 HS1 HS2 HFL HFM HBl HBm
  obtain ⟨sb, hsb⟩ : ∃ x, w9.heap.size = x := ⟨_, rfl⟩
  obtain ⟨tb, htb⟩ : ∃ x, sb + 1 = x := ⟨_, rfl⟩
  obtain ⟨wa, hwa⟩ : ∃ x, (w9.alloc (.cells #[.slice A1 L1.length c1] 27)).alloc (.cells #[.slice A2 L2.length c2] 27) = x := ⟨_, rfl⟩
  obtain ⟨k1, k2, k4⟩ := bk2 w9 _ _ _ hsb htb hwa
  have HLD : Hid (∀ W, Below wa.heap.size wa W → W.cell? ⟨sb, 0, none⟩ = some (.slice A1 L1.length c1) ∧ W.cell? ⟨tb, 0, none⟩ = some (.slice A2 L2.length c2)) := Lib.hid fun W hW => ⟨bCell hW (k1.cell 0), bCell hW (k2.cell 0)⟩
  have HBa := Lib.hid (bTrans HB9.out k4)
  have U1 := Lib.hid (V1.out.below k4)
  have U2 := Lib.hid (V2.out.below k4)
  have HEa := Lib.hid (And.intro hsb (And.intro htb hwa))
  have N1 : Hid (∀ W, Calls Tryz.prog 19 #[.agg #[.slice A1 L1.length c1]] W fun e w' => e = .returned (.int .i64 L1.length) ∧ Below W.heap.size W w') := Lib.hid fun W => st_Len A1 L1.length c1 W
  have N2 : Hid (∀ W, Calls Tryz.prog 19 #[.agg #[.slice A2 L2.length c2]] W fun e w' => e = .returned (.int .i64 L2.length) ∧ Below W.heap.size W w') := Lib.hid fun W => st_Len A2 L2.length c2 W
  have T1 := Lib.hid (fun W => at_all U1.out W)
  have T2 := Lib.hid (fun W => at_all U2.out W)
  clear k1 k2 k4 hsb htb hwa V1 V2 HW
  go_upto_region 6 with fail
  rw [HEa.out.1, HEa.out.2.1, HEa.out.2.2]
  clear HEa
  go_cut [15, 16] from 57 to 64 (fun av bv wx => ∃ ab bb : Nat, av = .pointer (some ⟨ab, 0, none⟩) ∧ bv = .pointer (some ⟨bb, 0, none⟩) ∧ Hid (Bk ab 29 #[.slice A1 L1.length L1.length] wx ∧ Bk bb 29 #[.slice A2 L2.length L2.length] wx ∧ Below wa.heap.size wa wx))
  case first =>
    refine wp_region_mk (SPS [(13, Sp.val (.pointer (some ⟨sb, 0, none⟩))), (57, Sp.val (.agg #[.slice A1 L1.length c1])), (58, Sp.val (.agg #[.slice A1 L1.length c1])), (59, Sp.val (.int .i64 L1.length)), (60, Sp.val (.agg #[.slice A1 L1.length L1.length])), (14, Sp.val (.pointer (some ⟨tb, 0, none⟩))), (61, Sp.val (.agg #[.slice A2 L2.length c2])), (62, Sp.val (.agg #[.slice A2 L2.length c2])), (63, Sp.val (.int .i64 L2.length)), (64, Sp.val (.agg #[.slice A2 L2.length L2.length]))]) [⟨8, 10, 15, 60, 29⟩, ⟨9, 11, 16, 64, 29⟩] [57, 58, 59, 60, 61, 62, 63, 64, 15, 16] rfl (by rfl) (by kernel_rfl) (SPS.st _) ?_ ?_ ?_ (by decide) (by rfl) ?_ (opsK_all ?_) ?_
    · exact fun p _ t v w b y x _ _ h => sps_pure (dead := []) (cons_all (.inr fun _ _ _ h => h) (cons_all (.inr fun _ _ _ h => h) (cons_all (.inr fun _ _ _ h => h) (cons_all (.inr fun _ _ _ h => h) (cons_all (.inr fun _ _ _ h => h) (cons_all (.inr fun _ _ _ h => h) (cons_all (.inr fun _ _ _ h => h) (cons_all (.inr fun _ _ _ h => h) (cons_all (.inr fun _ _ _ h => h) (cons_all (.inr fun _ _ _ h => h) (nil_all))))))))))) (by simp) h
    · intro p hp v w s hs
      simp only [List.mem_cons, List.not_mem_nil, or_false] at hp
      rcases hp with rfl | rfl
      all_goals cases hs
    · intro p hp
      simp only [List.mem_cons, List.not_mem_nil, or_false] at hp
      rcases hp with rfl | rfl
      all_goals exact ⟨_, rfl, by kernel_rfl, by kernel_rfl⟩
    · exact sps_start (cons_all rfl (cons_all rfl (nil_all)))
    · refine opsK_cons (by
       exact kind_n (opOk_load (p := ⟨sb, 0, none⟩) rfl rfl (.inl rfl) (by kernel_rfl) (fun _ _ h => h.get rfl) (fun W hW => by
          have c0 := (HLD.out W hW).1
          exact ⟨.agg #[.slice A1 L1.length c1], by go_simp, sps rfl rfl⟩)) (by decide)) ?_
      refine opsK_cons (by
       exact kind_n (opOk_load (p := ⟨sb, 0, none⟩) rfl rfl (.inl rfl) (by kernel_rfl) (fun _ _ h => h.get rfl) (fun W hW => by
          have c0 := (HLD.out W hW).1
          exact ⟨.agg #[.slice A1 L1.length c1], by go_simp, sps rfl rfl⟩)) (by decide)) ?_
      refine opsK_cons (by
       exact kind_n (opOk_callg (fun a => #[a.eval (.tmp 58)]) rfl rfl (.inl rfl) (fun a => by simp only [List.map_toArray, List.map_cons, List.map_nil] <;> rfl) (fun args W => by go_simp) (fun a W hW hsp => by
          have e58 : a.eval (.tmp 58) = .agg #[.slice A1 L1.length c1] := (hsp 58 (by kernel_rfl)).get rfl
          simp only [e58]
          exact (N1.out W).mono fun e w' ⟨he, hb⟩ => ⟨_, he, hb, sps rfl rfl⟩)) (by decide)) ?_
      refine opsK_cons (by
       exact kind_n (opOk_callg (fun a => #[a.eval (.tmp 57), a.eval (.tmp 59)]) rfl rfl (.inl rfl) (fun a => by simp only [List.map_toArray, List.map_cons, List.map_nil] <;> rfl) (fun args W => by go_simp) (fun a W hW hsp => by
          have e57 : a.eval (.tmp 57) = .agg #[.slice A1 L1.length c1] := (hsp 57 (by kernel_rfl)).get rfl
          have e59 : a.eval (.tmp 59) = .int .i64 L1.length := (hsp 59 (by kernel_rfl)).get rfl
          simp only [e57, e59]
          exact (T1.out W).mono fun e w' ⟨he, hb⟩ => ⟨_, he, hb, sps rfl rfl⟩)) (by decide)) ?_
      refine opsK_cons (by
       exact kind_n (opOk_load (p := ⟨tb, 0, none⟩) rfl rfl (.inl rfl) (by kernel_rfl) (fun _ _ h => h.get rfl) (fun W hW => by
          have c0 := (HLD.out W hW).2
          exact ⟨.agg #[.slice A2 L2.length c2], by go_simp, sps rfl rfl⟩)) (by decide)) ?_
      refine opsK_cons (by
       exact kind_n (opOk_load (p := ⟨tb, 0, none⟩) rfl rfl (.inl rfl) (by kernel_rfl) (fun _ _ h => h.get rfl) (fun W hW => by
          have c0 := (HLD.out W hW).2
          exact ⟨.agg #[.slice A2 L2.length c2], by go_simp, sps rfl rfl⟩)) (by decide)) ?_
      refine opsK_cons (by
       exact kind_n (opOk_callg (fun a => #[a.eval (.tmp 62)]) rfl rfl (.inl rfl) (fun a => by simp only [List.map_toArray, List.map_cons, List.map_nil] <;> rfl) (fun args W => by go_simp) (fun a W hW hsp => by
          have e62 : a.eval (.tmp 62) = .agg #[.slice A2 L2.length c2] := (hsp 62 (by kernel_rfl)).get rfl
          simp only [e62]
          exact (N2.out W).mono fun e w' ⟨he, hb⟩ => ⟨_, he, hb, sps rfl rfl⟩)) (by decide)) ?_
      refine opsK_cons (by
       exact kind_n (opOk_callg (fun a => #[a.eval (.tmp 61), a.eval (.tmp 63)]) rfl rfl (.inl rfl) (fun a => by simp only [List.map_toArray, List.map_cons, List.map_nil] <;> rfl) (fun args W => by go_simp) (fun a W hW hsp => by
          have e61 : a.eval (.tmp 61) = .agg #[.slice A2 L2.length c2] := (hsp 61 (by kernel_rfl)).get rfl
          have e63 : a.eval (.tmp 63) = .int .i64 L2.length := (hsp 63 (by kernel_rfl)).get rfl
          simp only [e61, e63]
          exact (T2.out W).mono fun e w' ⟨he, hb⟩ => ⟨_, he, hb, sps rfl rfl⟩)) (by decide)) ?_
      refine opsK_cons (by exact kind_alloc ⟨8, 10, 15, 60, 29⟩ (.slice none 0 0) (by simp) rfl rfl rfl (by decide) (by decide) (fun _ _ => run_newV rfl)) ?_
      refine opsK_cons (by exact kind_alloc ⟨9, 11, 16, 64, 29⟩ (.slice none 0 0) (by simp) rfl rfl rfl (by decide) (by decide) (fun _ _ => run_newV rfl)) ?_
      refine opsK_cons (by exact kind_store ⟨8, 10, 15, 60, 29⟩ (by simp) rfl rfl rfl (by kernel_rfl) (by kernel_rfl) (by kernel_rfl) (by decide) (fun v w h => ⟨_, _, _, h.get rfl⟩) (fun _ _ _ _ _ _ _ h1 h2 h3 => run_putV rfl h1 h2 h3)) ?_
      refine opsK_cons (by exact kind_store ⟨9, 11, 16, 64, 29⟩ (by simp) rfl rfl rfl (by kernel_rfl) (by kernel_rfl) (by kernel_rfl) (by decide) (fun v w h => ⟨_, _, _, h.get rfl⟩) (fun _ _ _ _ _ _ _ h1 h2 h3 => run_putV rfl h1 h2 h3)) ?_
      exact opsK_nil
    · intro vs W hb hsp hmk
      obtain ⟨vb0, y0, e0, hv0, hy0, z0⟩ := hmk ⟨8, 10, 15, 60, 29⟩ (by simp)
      have q0 : y0 = .slice A1 L1.length L1.length := by have h := z0.symm.trans ((hsp 60).get rfl); simpa using h
      subst q0
      obtain ⟨vb1, y1, e1, hv1, hy1, z1⟩ := hmk ⟨9, 11, 16, 64, 29⟩ (by simp)
      have q1 : y1 = .slice A2 L2.length L2.length := by have h := z1.symm.trans ((hsp 64).get rfl); simpa using h
      subst q1
      clear z0 z1 hmk hsp
      simp only [putAll]
      go_simp
      go_step
      go_meet
      exact ⟨vb0, vb1, rfl, rfl, Lib.hid ⟨hy0, hy1, hb⟩⟩
  case rest =>
    obtain ⟨ab, bb, rfl, rfl, HX⟩ := hcut
    obtain ⟨wv, rfl⟩ : ∃ x : World, x = wc := ⟨_, rfl⟩
    have HVW : Hid (∀ W, Below wv.heap.size wv W → (W.cell? ⟨ab, 0, none⟩ = some (.slice A1 L1.length L1.length) ∧ W.cell? ⟨bb, 0, none⟩ = some (.slice A2 L2.length L2.length)) ∧ Below wa.heap.size wa W) := Lib.hid fun W hW => ⟨⟨bCell hW (HX.out.1.cell 0), bCell hW (HX.out.2.1.cell 0)⟩, bTrans HX.out.2.2 hW⟩
    have HRV : Hid (Below wv.heap.size wv wv) := Lib.hid (Below.refl _ _)
    have SIN := Lib.hid (fun W hW => sinceV U1.out U2.out p W hW)
    have HSL := Lib.hid (since_low (p := p) HQ1.out HQ2.out)
    have HOW : Hid (∀ pe d : Int, (pe = p ∨ pe = 0) → ((sinceL p (changedL L1 L2)).2 = true → d < (sinceL p (changedL L1 L2)).1) → ownL co d (chosen (ofPK pe ki) L1 L1.length) = ownL co d (chosen (ofPK pe ki) L2 L2.length)) := Lib.hid fun pe d hpe hd => own_same U1.out.fit U2.out.fit (by omega) (by omega) HKI.out hpe hd
    have HF1 : Hid (∀ pe d W, Below wa.heap.size wa W → Calls Tryz.prog 34 #[.agg #[.slice A1 L1.length L1.length], .int .u32 pe, .int .i64 ki] W fun e w' => (∃ C n cc X, e = .returned (.slice C n cc) ∧ X.length = n ∧ n ≤ 100 ∧ SlK1 w' C X ∧ (∀ x ∈ X, Fit x.2) ∧ ownL co d X = ownL co d (chosen (ofPK pe ki) L1 L1.length)) ∧ Below W.heap.size W w') := Lib.hid fun pe d W hW =>
      (atV U1.out pe ki W hW).mono fun e w' ⟨⟨C, cc, he, hs⟩, hb⟩ => ⟨⟨C, _, cc, _, he, rfl, Nat.le_trans (chosen_len _ _ _) (by omega), hs, fun x hx => (chosen_fit U1.out.fit (by omega) x hx).f, rfl⟩, hb⟩
    have HF2 : Hid (∀ pe d W, Below wa.heap.size wa W → Calls Tryz.prog 34 #[.agg #[.slice A2 L2.length L2.length], .int .u32 pe, .int .i64 ki] W fun e w' => (∃ C n cc X, e = .returned (.slice C n cc) ∧ X.length = n ∧ n ≤ 100 ∧ SlK1 w' C X ∧ (∀ x ∈ X, Fit x.2) ∧ ownL co d X = ownL co d (chosen (ofPK pe ki) L2 L2.length)) ∧ Below W.heap.size W w') := Lib.hid fun pe d W hW =>
      (atV U2.out pe ki W hW).mono fun e w' ⟨⟨C, cc, he, hs⟩, hb⟩ => ⟨⟨C, _, cc, _, he, rfl, Nat.le_trans (chosen_len _ _ _) (by omega), hs, fun x hx => (chosen_fit U2.out.fit (by omega) x hx).f, rfl⟩, hb⟩
    obtain ⟨⟨sv, ok⟩, hsv⟩ : ∃ z, sinceL p (changedL L1 L2) = z := ⟨_, rfl⟩
    rw [hsv] at SIN HSL HOW
    simp only at SIN HSL HOW
    have hs1 := HSL.out.1
    have hs2 := HSL.out.2
    have HBW : Hid (∀ W, Below wa.heap.size wa W → Below w.heap.size w W) := Lib.hid fun W hW => bTrans HBa.out hW
    clear hsv N1 N2 T1 T2 HLD HX U1 U2 HQ1 HQ2 hl1 hl2 HKI
    obtain ⟨⟨q1, q2⟩, hqb⟩ := HVW.out wv HRV.out
    go_wp2_with fail
    refine (SIN.out _ hqb).mono ?_
    rintro e wf ⟨rfl, hbf⟩
    have HRF := Lib.hid hbf
    clear q1 q2 hqb hbf SIN
    go_upto_if 78 with fail
    go_cut [19] from 78 to 81 (fun dv wx => ∃ d : Int, dv = .int .i64 d ∧ Hid (∀ pe : Int, (pe = p ∨ pe = 0) → ownL co d (chosen (ofPK pe ki) L1 L1.length) = ownL co d (chosen (ofPK pe ki) L2 L2.length)) ∧ wf = wx)
    case first =>
      cases ok with
      | true =>
        go_wp2
        go_meet
        exact ⟨_, rfl, Lib.hid fun pe hpe => HOW.out pe _ hpe (fun _ => by omega), rfl⟩
      | false =>
        go_wp2
        go_meet
        exact ⟨_, rfl, Lib.hid fun pe hpe => HOW.out pe _ hpe (fun h => by cases h), rfl⟩
    case rest =>
      obtain ⟨d, rfl, HD, rfl⟩ := hcut
      clear HOW
      obtain ⟨ab2, hab2⟩ : ∃ x, wf.heap.size = x := ⟨_, rfl⟩
      obtain ⟨wg, hwg⟩ : ∃ x, wf.alloc (.cells #[.int .u32 0, .int .u32 p] 23) = x := ⟨_, rfl⟩
      have hkg : Bk ab2 23 #[.int .u32 0, .int .u32 p] wg := by rw [← hwg, ← hab2]; exact Bk.new _ _ _
      have hbg : Below wf.heap.size wf wg := by rw [← hwg]; exact bAlloc _ _
      have HWG : Hid (∀ W, Below wg.heap.size wg W → (W.cell? ⟨ab, 0, none⟩ = some (.slice A1 L1.length L1.length) ∧ W.cell? ⟨bb, 0, none⟩ = some (.slice A2 L2.length L2.length)) ∧ (W.cell? ⟨ab2, 0, none⟩ = some (.int .u32 0) ∧ W.cell? ⟨ab2, 1, none⟩ = some (.int .u32 p)) ∧ Below wa.heap.size wa W) := Lib.hid fun W hW => by
        obtain ⟨h1, h2⟩ := HVW.out _ (bTrans HRF.out (bTrans hbg hW))
        exact ⟨h1, ⟨bCell hW (hkg.cell 0), bCell hW (hkg.cell 1)⟩, h2⟩
      have HEg := Lib.hid (And.intro hab2 hwg)
      clear hkg hbg hab2 hwg
      go_wp2
      rw [HEg.out.1, HEg.out.2]
      clear HEg
      go_loopg [85] 2 (fun n iv wr => ∃ k : Nat, k + n = 2 ∧ iv = .int .i64 k ∧ Hid (Below wg.heap.size wg wr))
      case atStart => exact ⟨0, rfl, rfl, Lib.hid (Below.refl _ _)⟩
      case round =>
        obtain ⟨k, hk, rfl, HB⟩ := hrel
        by_cases hlt : k < 2
        · obtain ⟨pe, hpe, hce⟩ : ∃ pe : Int, (pe = p ∨ pe = 0) ∧ ∀ W, Below wg.heap.size wg W → W.cell? ⟨ab2, k, none⟩ = some (.int .u32 pe) := by
            have : k = 0 ∨ k = 1 := by omega
            rcases this with rfl | rfl
            · exact ⟨0, .inr rfl, fun W hW => (HWG.out W hW).2.1.1⟩
            · exact ⟨p, .inl rfl, fun W hW => (HWG.out W hW).2.1.2⟩
          have HDP := Lib.hid (HD.out pe hpe)
          have hlt2 : (k : Int) < 2 := by omega
          have e0 := hce wr HB.out
          obtain ⟨⟨q1, q2⟩, _, hqb⟩ := HWG.out wr HB.out
          clear hce hpe
          go_wp2_with fail
          refine (HF1.out pe d _ hqb).mono ?_
          rintro e wh ⟨⟨C1, n1, cc1, X1, rfl, hn1, hn100, hsx, hfx, hox⟩, hbh⟩
          subst hn1
          have HBh := Lib.hid (bTrans HB.out hbh)
          obtain ⟨_, _, hqh⟩ := HWG.out wh HBh.out
          have ha := la_at32 X1 co d C1 cc1 wh (by omega) hsx hfx (HTW.out _ (HBW.out _ hqh))
          rw [hox] at ha
          obtain ⟨O, hO⟩ : ∃ O, ownL co d (chosen (ofPK pe ki) L1 L1.length) = O := ⟨_, rfl⟩
          rw [hO] at ha HDP
          obtain ⟨q, hq⟩ : ∃ q, plc O d O.length = q := ⟨_, rfl⟩
          obtain ⟨v1, hv1⟩ : ∃ z, (valL O q).1 = z := ⟨_, rfl⟩
          obtain ⟨v2, hv2⟩ : ∃ z, (valL O q).2.1 = z := ⟨_, rfl⟩
          obtain ⟨v3, hv3⟩ : ∃ z, (valL O q).2.2 = z := ⟨_, rfl⟩
          rw [hq, hv1, hv2, hv3] at ha
          obtain ⟨is, his⟩ : ∃ z, decide (0 ≤ q) = z := ⟨_, rfl⟩
          rw [his] at ha
          have HA := Lib.hid ha
          have HVV := Lib.hid (And.intro hq (And.intro hv1 (And.intro hv2 (And.intro hv3 his))))
          clear q1 q2 hqb hbh hsx hfx hox hqh ha hO hq hv1 hv2 hv3 his e0
          go_wp2_with fail
          refine HA.out.mono ?_
          rintro e wi ⟨rfl, hbi⟩
          obtain ⟨xb, hxb⟩ : ∃ z, wi.heap.size = z := ⟨_, rfl⟩
          obtain ⟨wj, hwj⟩ : ∃ z, wi.alloc (.cells #[.int .i64 v1, .int .i64 v2, .string v3] 67) = z := ⟨_, rfl⟩
          have hkj : Bk xb 67 #[.int .i64 v1, .int .i64 v2, .string v3] wj := by rw [← hwj, ← hxb]; exact Bk.new _ _ _
          have HBj : Hid (Below wg.heap.size wg wj) := Lib.hid (by rw [← hwj]; exact bTrans HBh.out (bTrans hbi (bAlloc _ _)))
          have HKJ := Lib.hid hkj
          have HEj := Lib.hid (And.intro hxb hwj)
          clear hbi HA hkj hxb hwj hn100
          go_upto_region 15 with fail
          rw [HEj.out.1, HEj.out.2]
          clear HEj
          obtain ⟨⟨q1, q2⟩, _, hqb⟩ := HWG.out wj HBj.out
          go_wp2_with fail
          refine (HF2.out pe d _ hqb).mono ?_
          rintro e wk ⟨⟨C2, n2, cc2, X2, rfl, hn2, hn100, hsx, hfx, hox⟩, hbk⟩
          subst hn2
          have HBk := Lib.hid (bTrans HBj.out hbk)
          obtain ⟨_, _, hqh⟩ := HWG.out wk HBk.out
          have ha := la_at32 X2 co d C2 cc2 wk (by omega) hsx hfx (HTW.out _ (HBW.out _ hqh))
          rw [hox, ← HDP.out, HVV.out.1, HVV.out.2.1, HVV.out.2.2.1, HVV.out.2.2.2.1, HVV.out.2.2.2.2] at ha
          have HA := Lib.hid ha
          have HKK : Hid (Bk xb 67 #[.int .i64 v1, .int .i64 v2, .string v3] wk) := Lib.hid ((hbk.block xb HKJ.out.lt).trans HKJ.out)
          clear q1 q2 hqb hbk hsx hfx hox hqh ha
          go_wp2_with fail
          refine HA.out.mono ?_
          rintro e wm ⟨rfl, hbm⟩
          obtain ⟨yb, hyb⟩ : ∃ z, wm.heap.size = z := ⟨_, rfl⟩
          obtain ⟨wn, hwn⟩ : ∃ z, wm.alloc (.cells #[.int .i64 v1, .int .i64 v2, .string v3] 67) = z := ⟨_, rfl⟩
          have hkn : Bk yb 67 #[.int .i64 v1, .int .i64 v2, .string v3] wn := by rw [← hwn, ← hyb]; exact Bk.new _ _ _
          have hbn : Below wk.heap.size wk wn := by rw [← hwn]; exact bTrans hbm (bAlloc _ _)
          have hkx : Bk xb 67 #[.int .i64 v1, .int .i64 v2, .string v3] wn := (hbn.block xb HKK.out.lt).trans HKK.out
          have HBn : Hid (Below wg.heap.size wg wn) := Lib.hid (bTrans HBk.out hbn)
          have HEn := Lib.hid (And.intro hyb hwn)
          have HNN := Lib.hid (And.intro hkn hkx)
          clear hbm hkn hkx hbn hyb hwn hn100 HA
          go_upto_region 16 with fail
          rw [HEn.out.1, HEn.out.2]
          clear HEn
          have X0 : wn.cell? ⟨xb, 0, none⟩ = some (.int .i64 v1) := HNN.out.2.cell 0
          have X1' : wn.cell? ⟨xb, 1, none⟩ = some (.int .i64 v2) := HNN.out.2.cell 1
          have X2' : wn.cell? ⟨xb, 2, none⟩ = some (.string v3) := HNN.out.2.cell 2
          have Y0 : wn.cell? ⟨yb, 0, none⟩ = some (.int .i64 v1) := HNN.out.1.cell 0
          have Y1 : wn.cell? ⟨yb, 1, none⟩ = some (.int .i64 v2) := HNN.out.1.cell 1
          have Y2 : wn.cell? ⟨yb, 2, none⟩ = some (.string v3) := HNN.out.1.cell 2
          have hq : ∀ W : World, (binOp .neq 67 (.agg #[.int .i64 v1, .int .i64 v2, .string v3]) (.agg #[.int .i64 v1, .int .i64 v2, .string v3])).run Tryz.prog W = .ok (.bool false) W := run_neV v1 v2 v3
          have nis : (is != is) = false := by cases is <;> rfl
          go_wp2
          go_roundg (2 - (k + 1))
          case measure => omega
          case rel => exact ⟨k + 1, by omega, by go_num, HBn⟩
        · have hk2 : k = 2 := by omega
          subst hk2
          have HFI := Lib.hid (HBW.out _ (HWG.out wr HB.out).2.2)
          go_wp2
          go_ret
          exact ⟨rfl, HFI.out⟩
end Go.Proofs.YtgheloooibafcaaGreatDoor
