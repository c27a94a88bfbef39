import Derived.Test.YtlgoaohklggcdaaGreatDoorAbc
/- absent.sum, Minutes, Days. -/
namespace Go.Proofs.YtlgoaohklggcdaaGreatDoor
open Go.RowKit Go.Sort

set_option maxHeartbeats 4000000 in
set_option maxRecDepth 100000 in
theorem ab_sumM (l : List Ab) (A : Option Addr) (c : Nat) (h : Nat → Int) (D : List Int) (AD : Option Addr) (cD : Nat) (F U k : Int) (w : World) (hl : l.length ≤ 100000) (hs : Sl encAb 5 w w.heap.size A l) (hn : D.length ≤ 9223372036854775807) (hd : ∀ d ∈ D, -9223372036854775808 ≤ d ∧ d ≤ 9223372036854775807) (hsD : Sl encDd 1 w w.heap.size AD D) (hT : Tab w) :
    Calls Tryz.prog 76 #[.slice A l.length c, .agg #[.int .i64 F, .int .i64 U], .int .i64 k, .func (.func 46) #[.agg #[.int .i64 (h 0), .int .i64 (h 1), .int .i64 (h 2), .int .i64 (h 3), .int .i64 (h 4), .int .i64 (h 5), .int .i64 (h 6), .slice AD D.length cD]] #[]] w fun e w' => e = .returned (.int .i64 (SU (fun d => if awayB l k d = true then gMin h D d else 0) F U)) ∧ Below w.heap.size w w' := by
  obtain ⟨sb, hsb⟩ : ∃ z, w.heap.size = z := ⟨_, rfl⟩
  obtain ⟨w2, hw2⟩ : ∃ z, w.alloc (.cells #[.int .i64 F, .int .i64 U] 31) = z := ⟨_, rfl⟩
  have hb2 : Below w.heap.size w w2 := by rw [← hw2]; exact bAlloc _ _
  have HB2 := Lib.hid hb2
  have HK2 : Hid (Bk sb 31 #[.int .i64 F, .int .i64 U] w2) := Lib.hid (by rw [← hw2, ← hsb]; exact Bk.new _ _ _)
  have HPA := Lib.hid (ab_parts l A c F U k w2 hl (sl_bel hs hb2))
  have HTL : Hid (∀ a b W, Below w2.heap.size w2 W → Calls Tryz.prog 46 #[.agg #[.int .i64 (h 0), .int .i64 (h 1), .int .i64 (h 2), .int .i64 (h 3), .int .i64 (h 4), .int .i64 (h 5), .int .i64 (h 6), .slice AD D.length cD], .agg #[.int .i64 a, .int .i64 b]] W fun e w' => e = .returned (.int .i64 (wkM h D a b)) ∧ Below W.heap.size W w') := Lib.hid fun a b W hW =>
    wk_Minutes h D AD cD a b W hn hd (sl_bel hsD (bTrans hb2 hW)) (tabW hT (bTrans hb2 hW))
  have HLAW : Hid (∀ m, SrtS (selA l F U k) m → sumT (wkM h D) (cutP F m) = SU (fun d => if awayB l k d = true then gMin h D d else 0) F U) := Lib.hid fun m hm => ab_law hm (gMin h D) (fun a b hab => wkM_SU h D hab)
  obtain ⟨R, hR⟩ : ∃ R, SU (fun d => if awayB l k d = true then gMin h D d else 0) F U = R := ⟨_, rfl⟩
  rw [hR] at HLAW ⊢
  have HML : Hid (∀ m, SrtS (selA l F U k) m → m.length ≤ 100000) := Lib.hid fun m hm => by have := hm.1.length_eq; have := selA_len l F U k; omega
  obtain ⟨T, hTT⟩ : ∃ T, wkM h D = T := ⟨_, rfl⟩
  have HBD : Hid (∀ a b, 0 ≤ T a b ∧ T a b ≤ 200000000) := Lib.hid (by rw [← hTT]; exact wkM_bd h D)
  have HTL2 : Hid (∀ a b W, Below w2.heap.size w2 W → Calls Tryz.prog 46 #[.agg #[.int .i64 (h 0), .int .i64 (h 1), .int .i64 (h 2), .int .i64 (h 3), .int .i64 (h 4), .int .i64 (h 5), .int .i64 (h 6), .slice AD D.length cD], .agg #[.int .i64 a, .int .i64 b]] W fun e w' => e = .returned (.int .i64 (T a b)) ∧ Below W.heap.size W w') := Lib.hid (by rw [← hTT]; exact HTL.out)
  rw [hTT] at HLAW
  have HE := Lib.hid (And.intro hsb hw2)
  clear hs hb2 hw2 hsb hsD hd hn hT hR hTT HTL
  have S0 : w2.cell? ⟨sb, 0, none⟩ = some (.int .i64 F) := HK2.out.cell 0
  have S1 : w2.cell? ⟨sb, 1, none⟩ = some (.int .i64 U) := HK2.out.cell 1
  go_enter Tryz.func76, Tryz.ntmps76
  go_upto_region 1 with fail
  rw [HE.out.1, HE.out.2]
  clear HE
  go_wp2_with fail
  refine HPA.out.mono ?_
  rintro e w3 ⟨m, A', c', hm, rfl, ho3, hb3⟩
  have hml := HML.out m hm
  obtain ⟨P, hP⟩ : ∃ P, cutP F m = P := ⟨_, rfl⟩
  have hPl : P.length = m.length := by rw [← hP]; exact cutP_len m F
  have HR : Hid (sumT T P = R) := Lib.hid (by rw [← hP]; exact HLAW.out m hm)
  rw [hP] at ho3
  rw [← hPl] at ho3 hml ⊢
  obtain ⟨Ap, cp, ep, _, hsp⟩ := own_sl encSp_len ho3
  injection ep with ep1 _ ep3
  subst ep1
  have HS3 := Lib.hid hsp
  have HB3 := Lib.hid hb3
  clear hm ho3 hb3 hP hPl hsp ep3 S0 S1 HPA HLAW HML HK2
  go_wp2
  go_loopw [9, 17] (fun nv iv wr => ∃ i : Nat, i ≤ P.length ∧ iv = .int .i64 i ∧ (∃ n : Int, nv = .int .i64 n ∧ Hid (sumT T (P.take i) = n)) ∧ Hid (Below w3.heap.size w3 wr)) (fun _ iv _ => P.length - (intOf iv).toNat)
  case atStart => exact ⟨0, Nat.zero_le _, rfl, ⟨0, rfl, Lib.hid rfl⟩, Lib.hid (Below.refl _ _)⟩
  case round =>
    obtain ⟨i, hi, rfl, ⟨n, rfl, HN⟩, HB⟩ := hrel
    by_cases hlt : i < P.length
    · obtain ⟨⟨p1, p2⟩, hx⟩ : ∃ x, P[i]? = some x := ⟨_, List.getElem?_eq_getElem hlt⟩
      obtain ⟨g, o, rfl, _, hat⟩ := HS3.out (by intro h; simp [h] at hx)
      have C0 : wr.cell? ⟨g, o + i * 2, none⟩ = some (.int .i64 p1) := bCell HB.out (hat i _ hx 0 _ rfl)
      have C1 : wr.cell? ⟨g, o + i * 2 + 1, none⟩ = some (.int .i64 p2) := bCell HB.out (hat i _ hx 1 _ rfl)
      have hnb : 0 ≤ n ∧ n ≤ 200000000 * 100000 := by
        have h1 := sumT_bd (by decide : (0 : Int) ≤ 200000000) HBD.out (P.take i)
        rw [HN.out, List.length_take] at h1
        omega
      have HST : Hid (sumT T (P.take (i + 1)) = n + if p1 < p2 then T p1 p2 else 0) := Lib.hid (by rw [sumT_take T hx, HN.out])
      obtain ⟨xb, hxb⟩ : ∃ z, wr.heap.size = z := ⟨_, rfl⟩
      obtain ⟨wx, hwx⟩ : ∃ z, wr.alloc (.cells #[.int .i64 p1, .int .i64 p2] 31) = z := ⟨_, rfl⟩
      have hbx : Below wr.heap.size wr wx := by rw [← hwx]; exact bAlloc _ _
      have hkx : Bk xb 31 #[.int .i64 p1, .int .i64 p2] wx := by rw [← hwx, ← hxb]; exact Bk.new _ _ _
      have HBX : Hid (Below w3.heap.size w3 wx) := Lib.hid (bTrans HB.out hbx)
      have X0 : wx.cell? ⟨xb, 0, none⟩ = some (.int .i64 p1) := hkx.cell 0
      have X1 : wx.cell? ⟨xb, 1, none⟩ = some (.int .i64 p2) := hkx.cell 1
      have HE := Lib.hid (And.intro hxb hwx)
      have hlt2 : (i : Int) < (P.length : Int) := by omega
      clear hx hat hxb hwx hbx hkx HB
      go_upto_region 5 with fail
      rw [HE.out.1, HE.out.2]
      clear HE C0 C1
      by_cases hp : p1 < p2
      · have HCA := Lib.hid (HTL2.out p1 p2 wx (bTrans HB3.out HBX.out))
        obtain ⟨t, ht⟩ : ∃ t, T p1 p2 = t := ⟨_, rfl⟩
        have htb : 0 ≤ t ∧ t ≤ 200000000 := by rw [← ht]; exact HBD.out _ _
        have HS2 : Hid (sumT T (P.take (i + 1)) = n + t) := Lib.hid (by rw [HST.out, if_pos hp, ht])
        rw [ht] at HCA
        clear ht
        go_wp2_with fail
        refine HCA.out.mono ?_
        rintro e wn ⟨rfl, hbn⟩
        have HBN := Lib.hid (bTrans HBX.out hbn)
        clear hbn HCA X0 X1
        go_wp2
        exact ⟨⟨i + 1, by omega, by go_num, ⟨n + t, by go_num, HS2⟩, HBN⟩, by simp [intOf]; omega⟩
      · have HS2 : Hid (sumT T (P.take (i + 1)) = n) := Lib.hid (by rw [HST.out, if_neg hp, Int.add_zero])
        go_wp2
        exact ⟨⟨i + 1, by omega, by go_num, ⟨n, rfl, HS2⟩, HBX⟩, by simp [intOf]; omega⟩
    · obtain rfl : i = P.length := by omega
      have HF : Hid (n = R ∧ Below w.heap.size w wr) := Lib.hid ⟨by rw [← HN.out, List.take_length]; exact HR.out, bTrans HB2.out (bTrans HB3.out HB.out)⟩
      clear hlt
      go_wp2
      go_ret
      exact ⟨by rw [HF.out.1]; rfl, HF.out.2⟩
set_option maxHeartbeats 4000000 in
set_option maxRecDepth 100000 in
theorem ab_Minutes (l : List Ab) (A : Option Addr) (c : Nat) (h : Nat → Int) (D : List Int) (AD : Option Addr) (cD : Nat) (F U k : Int) (w : World) (hl : l.length ≤ 100000) (hs : Sl encAb 5 w w.heap.size A l) (hn : D.length ≤ 9223372036854775807) (hd : ∀ d ∈ D, -9223372036854775808 ≤ d ∧ d ≤ 9223372036854775807) (hsD : Sl encDd 1 w w.heap.size AD D) (hT : Tab w) :
    Calls Tryz.prog 34 #[.slice A l.length c, .agg #[.int .i64 (h 0), .int .i64 (h 1), .int .i64 (h 2), .int .i64 (h 3), .int .i64 (h 4), .int .i64 (h 5), .int .i64 (h 6), .slice AD D.length cD], .agg #[.int .i64 F, .int .i64 U], .int .i64 k] w fun e w' => e = .returned (.int .i64 (SU (fun d => if awayB l k d = true then gMin h D d else 0) F U)) ∧ Below w.heap.size w w' := by
  obtain ⟨pb, hpb⟩ : ∃ z, w.heap.size = z := ⟨_, rfl⟩
  obtain ⟨sb, hsb⟩ : ∃ z, pb + 1 = z := ⟨_, rfl⟩
  obtain ⟨w2, hw2⟩ : ∃ z, (w.alloc (.cells #[.int .i64 (h 0), .int .i64 (h 1), .int .i64 (h 2), .int .i64 (h 3), .int .i64 (h 4), .int .i64 (h 5), .int .i64 (h 6), .slice AD D.length cD] 85)).alloc (.cells #[.int .i64 F, .int .i64 U] 31) = z := ⟨_, rfl⟩
  obtain ⟨k1, k2, hb2⟩ := bkk2 w _ _ _ _ hpb hsb hw2
  have HB2 := Lib.hid hb2
  have HSM := Lib.hid (ab_sumM l A c h D AD cD F U k w2 hl (sl_bel hs hb2) hn hd (sl_bel hsD hb2) (tabW hT hb2))
  have HE := Lib.hid (And.intro hpb (And.intro hsb hw2))
  have K0 : w2.cell? ⟨pb, 0, none⟩ = some (.int .i64 (h 0)) := k1.cell 0
  have K1 : w2.cell? ⟨pb, 1, none⟩ = some (.int .i64 (h 1)) := k1.cell 1
  have K2 : w2.cell? ⟨pb, 2, none⟩ = some (.int .i64 (h 2)) := k1.cell 2
  have K3 : w2.cell? ⟨pb, 3, none⟩ = some (.int .i64 (h 3)) := k1.cell 3
  have K4 : w2.cell? ⟨pb, 4, none⟩ = some (.int .i64 (h 4)) := k1.cell 4
  have K5 : w2.cell? ⟨pb, 5, none⟩ = some (.int .i64 (h 5)) := k1.cell 5
  have K6 : w2.cell? ⟨pb, 6, none⟩ = some (.int .i64 (h 6)) := k1.cell 6
  have K7 : w2.cell? ⟨pb, 7, none⟩ = some (.slice AD D.length cD) := k1.cell 7
  have S0 : w2.cell? ⟨sb, 0, none⟩ = some (.int .i64 F) := k2.cell 0
  have S1 : w2.cell? ⟨sb, 1, none⟩ = some (.int .i64 U) := k2.cell 1
  obtain ⟨R, hR⟩ : ∃ R, SU (fun d => if awayB l k d = true then gMin h D d else 0) F U = R := ⟨_, rfl⟩
  rw [hR] at HSM ⊢
  clear hpb hsb hw2 k1 k2 hb2 hs hT hd hn hsD hR
  go_enter Tryz.func34, Tryz.ntmps34
  go_upto_region 1 with fail
  rw [HE.out.1, HE.out.2.1, HE.out.2.2]
  clear HE
  go_wp2_with fail
  refine HSM.out.mono ?_
  rintro e w3 ⟨rfl, hb3⟩
  have HF := Lib.hid (bTrans HB2.out hb3)
  clear hb3 HSM K0 K1 K2 K3 K4 K5 K6 K7 S0 S1
  go_wp2
  go_ret
  exact ⟨rfl, HF.out⟩
set_option maxHeartbeats 4000000 in
set_option maxRecDepth 100000 in
theorem ab_sumN (l : List Ab) (A : Option Addr) (c : Nat) (h : Nat → Int) (D : List Int) (AD : Option Addr) (cD : Nat) (F U k : Int) (w : World) (hl : l.length ≤ 100000) (hs : Sl encAb 5 w w.heap.size A l) (hn : D.length ≤ 9223372036854775807) (hd : ∀ d ∈ D, -9223372036854775808 ≤ d ∧ d ≤ 9223372036854775807) (hsD : Sl encDd 1 w w.heap.size AD D) (hT : Tab w) :
    Calls Tryz.prog 76 #[.slice A l.length c, .agg #[.int .i64 F, .int .i64 U], .int .i64 k, .func (.func 77) #[.agg #[.int .i64 (h 0), .int .i64 (h 1), .int .i64 (h 2), .int .i64 (h 3), .int .i64 (h 4), .int .i64 (h 5), .int .i64 (h 6), .slice AD D.length cD]] #[]] w fun e w' => e = .returned (.int .i64 (SU (fun d => if awayB l k d = true then gDay h D d else 0) F U)) ∧ Below w.heap.size w w' := by
  obtain ⟨sb, hsb⟩ : ∃ z, w.heap.size = z := ⟨_, rfl⟩
  obtain ⟨w2, hw2⟩ : ∃ z, w.alloc (.cells #[.int .i64 F, .int .i64 U] 31) = z := ⟨_, rfl⟩
  have hb2 : Below w.heap.size w w2 := by rw [← hw2]; exact bAlloc _ _
  have HB2 := Lib.hid hb2
  have HK2 : Hid (Bk sb 31 #[.int .i64 F, .int .i64 U] w2) := Lib.hid (by rw [← hw2, ← hsb]; exact Bk.new _ _ _)
  have HPA := Lib.hid (ab_parts l A c F U k w2 hl (sl_bel hs hb2))
  have HTL : Hid (∀ a b W, Below w2.heap.size w2 W → Calls Tryz.prog 77 #[.agg #[.int .i64 (h 0), .int .i64 (h 1), .int .i64 (h 2), .int .i64 (h 3), .int .i64 (h 4), .int .i64 (h 5), .int .i64 (h 6), .slice AD D.length cD], .agg #[.int .i64 a, .int .i64 b]] W fun e w' => e = .returned (.int .i64 (wkN h D a b)) ∧ Below W.heap.size W w') := Lib.hid fun a b W hW =>
    wk_Days h D AD cD a b W hn hd (sl_bel hsD (bTrans hb2 hW)) (tabW hT (bTrans hb2 hW))
  have HLAW : Hid (∀ m, SrtS (selA l F U k) m → sumT (wkN h D) (cutP F m) = SU (fun d => if awayB l k d = true then gDay h D d else 0) F U) := Lib.hid fun m hm => ab_law hm (gDay h D) (fun a b hab => wkN_SU h D hab)
  obtain ⟨R, hR⟩ : ∃ R, SU (fun d => if awayB l k d = true then gDay h D d else 0) F U = R := ⟨_, rfl⟩
  rw [hR] at HLAW ⊢
  have HML : Hid (∀ m, SrtS (selA l F U k) m → m.length ≤ 100000) := Lib.hid fun m hm => by have := hm.1.length_eq; have := selA_len l F U k; omega
  obtain ⟨T, hTT⟩ : ∃ T, wkN h D = T := ⟨_, rfl⟩
  have HBD : Hid (∀ a b, 0 ≤ T a b ∧ T a b ≤ 200000000) := Lib.hid (by rw [← hTT]; exact wkN_bd h D)
  have HTL2 : Hid (∀ a b W, Below w2.heap.size w2 W → Calls Tryz.prog 77 #[.agg #[.int .i64 (h 0), .int .i64 (h 1), .int .i64 (h 2), .int .i64 (h 3), .int .i64 (h 4), .int .i64 (h 5), .int .i64 (h 6), .slice AD D.length cD], .agg #[.int .i64 a, .int .i64 b]] W fun e w' => e = .returned (.int .i64 (T a b)) ∧ Below W.heap.size W w') := Lib.hid (by rw [← hTT]; exact HTL.out)
  rw [hTT] at HLAW
  have HE := Lib.hid (And.intro hsb hw2)
  clear hs hb2 hw2 hsb hsD hd hn hT hR hTT HTL
  have S0 : w2.cell? ⟨sb, 0, none⟩ = some (.int .i64 F) := HK2.out.cell 0
  have S1 : w2.cell? ⟨sb, 1, none⟩ = some (.int .i64 U) := HK2.out.cell 1
  go_enter Tryz.func76, Tryz.ntmps76
  go_upto_region 1 with fail
  rw [HE.out.1, HE.out.2]
  clear HE
  go_wp2_with fail
  refine HPA.out.mono ?_
  rintro e w3 ⟨m, A', c', hm, rfl, ho3, hb3⟩
  have hml := HML.out m hm
  obtain ⟨P, hP⟩ : ∃ P, cutP F m = P := ⟨_, rfl⟩
  have hPl : P.length = m.length := by rw [← hP]; exact cutP_len m F
  have HR : Hid (sumT T P = R) := Lib.hid (by rw [← hP]; exact HLAW.out m hm)
  rw [hP] at ho3
  rw [← hPl] at ho3 hml ⊢
  obtain ⟨Ap, cp, ep, _, hsp⟩ := own_sl encSp_len ho3
  injection ep with ep1 _ ep3
  subst ep1
  have HS3 := Lib.hid hsp
  have HB3 := Lib.hid hb3
  clear hm ho3 hb3 hP hPl hsp ep3 S0 S1 HPA HLAW HML HK2
  go_wp2
  go_loopw [9, 17] (fun nv iv wr => ∃ i : Nat, i ≤ P.length ∧ iv = .int .i64 i ∧ (∃ n : Int, nv = .int .i64 n ∧ Hid (sumT T (P.take i) = n)) ∧ Hid (Below w3.heap.size w3 wr)) (fun _ iv _ => P.length - (intOf iv).toNat)
  case atStart => exact ⟨0, Nat.zero_le _, rfl, ⟨0, rfl, Lib.hid rfl⟩, Lib.hid (Below.refl _ _)⟩
  case round =>
    obtain ⟨i, hi, rfl, ⟨n, rfl, HN⟩, HB⟩ := hrel
    by_cases hlt : i < P.length
    · obtain ⟨⟨p1, p2⟩, hx⟩ : ∃ x, P[i]? = some x := ⟨_, List.getElem?_eq_getElem hlt⟩
      obtain ⟨g, o, rfl, _, hat⟩ := HS3.out (by intro h; simp [h] at hx)
      have C0 : wr.cell? ⟨g, o + i * 2, none⟩ = some (.int .i64 p1) := bCell HB.out (hat i _ hx 0 _ rfl)
      have C1 : wr.cell? ⟨g, o + i * 2 + 1, none⟩ = some (.int .i64 p2) := bCell HB.out (hat i _ hx 1 _ rfl)
      have hnb : 0 ≤ n ∧ n ≤ 200000000 * 100000 := by
        have h1 := sumT_bd (by decide : (0 : Int) ≤ 200000000) HBD.out (P.take i)
        rw [HN.out, List.length_take] at h1
        omega
      have HST : Hid (sumT T (P.take (i + 1)) = n + if p1 < p2 then T p1 p2 else 0) := Lib.hid (by rw [sumT_take T hx, HN.out])
      obtain ⟨xb, hxb⟩ : ∃ z, wr.heap.size = z := ⟨_, rfl⟩
      obtain ⟨wx, hwx⟩ : ∃ z, wr.alloc (.cells #[.int .i64 p1, .int .i64 p2] 31) = z := ⟨_, rfl⟩
      have hbx : Below wr.heap.size wr wx := by rw [← hwx]; exact bAlloc _ _
      have hkx : Bk xb 31 #[.int .i64 p1, .int .i64 p2] wx := by rw [← hwx, ← hxb]; exact Bk.new _ _ _
      have HBX : Hid (Below w3.heap.size w3 wx) := Lib.hid (bTrans HB.out hbx)
      have X0 : wx.cell? ⟨xb, 0, none⟩ = some (.int .i64 p1) := hkx.cell 0
      have X1 : wx.cell? ⟨xb, 1, none⟩ = some (.int .i64 p2) := hkx.cell 1
      have HE := Lib.hid (And.intro hxb hwx)
      have hlt2 : (i : Int) < (P.length : Int) := by omega
      clear hx hat hxb hwx hbx hkx HB
      go_upto_region 5 with fail
      rw [HE.out.1, HE.out.2]
      clear HE C0 C1
      by_cases hp : p1 < p2
      · have HCA := Lib.hid (HTL2.out p1 p2 wx (bTrans HB3.out HBX.out))
        obtain ⟨t, ht⟩ : ∃ t, T p1 p2 = t := ⟨_, rfl⟩
        have htb : 0 ≤ t ∧ t ≤ 200000000 := by rw [← ht]; exact HBD.out _ _
        have HS2 : Hid (sumT T (P.take (i + 1)) = n + t) := Lib.hid (by rw [HST.out, if_pos hp, ht])
        rw [ht] at HCA
        clear ht
        go_wp2_with fail
        refine HCA.out.mono ?_
        rintro e wn ⟨rfl, hbn⟩
        have HBN := Lib.hid (bTrans HBX.out hbn)
        clear hbn HCA X0 X1
        go_wp2
        exact ⟨⟨i + 1, by omega, by go_num, ⟨n + t, by go_num, HS2⟩, HBN⟩, by simp [intOf]; omega⟩
      · have HS2 : Hid (sumT T (P.take (i + 1)) = n) := Lib.hid (by rw [HST.out, if_neg hp, Int.add_zero])
        go_wp2
        exact ⟨⟨i + 1, by omega, by go_num, ⟨n, rfl, HS2⟩, HBX⟩, by simp [intOf]; omega⟩
    · obtain rfl : i = P.length := by omega
      have HF : Hid (n = R ∧ Below w.heap.size w wr) := Lib.hid ⟨by rw [← HN.out, List.take_length]; exact HR.out, bTrans HB2.out (bTrans HB3.out HB.out)⟩
      clear hlt
      go_wp2
      go_ret
      exact ⟨by rw [HF.out.1]; rfl, HF.out.2⟩
set_option maxHeartbeats 4000000 in
set_option maxRecDepth 100000 in
theorem ab_Days (l : List Ab) (A : Option Addr) (c : Nat) (h : Nat → Int) (D : List Int) (AD : Option Addr) (cD : Nat) (F U k : Int) (w : World) (hl : l.length ≤ 100000) (hs : Sl encAb 5 w w.heap.size A l) (hn : D.length ≤ 9223372036854775807) (hd : ∀ d ∈ D, -9223372036854775808 ≤ d ∧ d ≤ 9223372036854775807) (hsD : Sl encDd 1 w w.heap.size AD D) (hT : Tab w) :
    Calls Tryz.prog 35 #[.slice A l.length c, .agg #[.int .i64 (h 0), .int .i64 (h 1), .int .i64 (h 2), .int .i64 (h 3), .int .i64 (h 4), .int .i64 (h 5), .int .i64 (h 6), .slice AD D.length cD], .agg #[.int .i64 F, .int .i64 U], .int .i64 k] w fun e w' => e = .returned (.int .i64 (SU (fun d => if awayB l k d = true then gDay h D d else 0) F U)) ∧ Below w.heap.size w w' := by
  obtain ⟨pb, hpb⟩ : ∃ z, w.heap.size = z := ⟨_, rfl⟩
  obtain ⟨sb, hsb⟩ : ∃ z, pb + 1 = z := ⟨_, rfl⟩
  obtain ⟨w2, hw2⟩ : ∃ z, (w.alloc (.cells #[.int .i64 (h 0), .int .i64 (h 1), .int .i64 (h 2), .int .i64 (h 3), .int .i64 (h 4), .int .i64 (h 5), .int .i64 (h 6), .slice AD D.length cD] 85)).alloc (.cells #[.int .i64 F, .int .i64 U] 31) = z := ⟨_, rfl⟩
  obtain ⟨k1, k2, hb2⟩ := bkk2 w _ _ _ _ hpb hsb hw2
  have HB2 := Lib.hid hb2
  have HSM := Lib.hid (ab_sumN l A c h D AD cD F U k w2 hl (sl_bel hs hb2) hn hd (sl_bel hsD hb2) (tabW hT hb2))
  have HE := Lib.hid (And.intro hpb (And.intro hsb hw2))
  have K0 : w2.cell? ⟨pb, 0, none⟩ = some (.int .i64 (h 0)) := k1.cell 0
  have K1 : w2.cell? ⟨pb, 1, none⟩ = some (.int .i64 (h 1)) := k1.cell 1
  have K2 : w2.cell? ⟨pb, 2, none⟩ = some (.int .i64 (h 2)) := k1.cell 2
  have K3 : w2.cell? ⟨pb, 3, none⟩ = some (.int .i64 (h 3)) := k1.cell 3
  have K4 : w2.cell? ⟨pb, 4, none⟩ = some (.int .i64 (h 4)) := k1.cell 4
  have K5 : w2.cell? ⟨pb, 5, none⟩ = some (.int .i64 (h 5)) := k1.cell 5
  have K6 : w2.cell? ⟨pb, 6, none⟩ = some (.int .i64 (h 6)) := k1.cell 6
  have K7 : w2.cell? ⟨pb, 7, none⟩ = some (.slice AD D.length cD) := k1.cell 7
  have S0 : w2.cell? ⟨sb, 0, none⟩ = some (.int .i64 F) := k2.cell 0
  have S1 : w2.cell? ⟨sb, 1, none⟩ = some (.int .i64 U) := k2.cell 1
  obtain ⟨R, hR⟩ : ∃ R, SU (fun d => if awayB l k d = true then gDay h D d else 0) F U = R := ⟨_, rfl⟩
  rw [hR] at HSM ⊢
  clear hpb hsb hw2 k1 k2 hb2 hs hT hd hn hsD hR
  go_enter Tryz.func35, Tryz.ntmps35
  go_upto_region 1 with fail
  rw [HE.out.1, HE.out.2.1, HE.out.2.2]
  clear HE
  go_wp2_with fail
  refine HSM.out.mono ?_
  rintro e w3 ⟨rfl, hb3⟩
  have HF := Lib.hid (bTrans HB2.out hb3)
  clear hb3 HSM K0 K1 K2 K3 K4 K5 K6 K7 S0 S1
  go_wp2
  go_ret
  exact ⟨rfl, HF.out⟩
end Go.Proofs.YtlgoaohklggcdaaGreatDoor
