import Derived.Test.YtlgoaohklggcdaaGreatDoorAby
/- law18.AbsentSums. -/
namespace Go.Proofs.YtlgoaohklggcdaaGreatDoor
open Go.RowKit Go.Sort

/-- What 'long' answers. -/
def LongR (F U n : Int) (w : World) (e : Ending) (w' : World) : Prop := ∃ b, e = .returned (.bool b) ∧ (b = false → -1099511627776 ≤ F ∧ F ≤ 1099511627776 ∧ U ≤ 2199023255552 ∧ U - F ≤ n) ∧ Below w.heap.size w w'
theorem LongR.of {F U n : Int} {w w' : World} {e : Ending} (b : Bool) (he : e = .returned (.bool b)) (h : b = false → -1099511627776 ≤ F ∧ F ≤ 1099511627776 ∧ U ≤ 2199023255552 ∧ U - F ≤ n) (hb : Below w.heap.size w w') : LongR F U n w e w' := ⟨b, he, h, hb⟩
set_option maxHeartbeats 2000000 in
theorem la_long (F U n : Int) (w : World) (hF : -9223372036854775808 ≤ F ∧ F ≤ 9223372036854775807) (hU : -9223372036854775808 ≤ U ∧ U ≤ 9223372036854775807) (hn : 0 ≤ n ∧ n ≤ 1000000) :
    Calls Tryz.prog 31 #[.agg #[.int .i64 F, .int .i64 U], .int .i64 n] w (LongR F U n w) := by
  obtain ⟨sb, hsb⟩ : ∃ z, w.heap.size = z := ⟨_, rfl⟩
  obtain ⟨w2, hw2⟩ : ∃ z, w.alloc (.cells #[.int .i64 F, .int .i64 U] 31) = z := ⟨_, rfl⟩
  have hk : Bk sb 31 #[.int .i64 F, .int .i64 U] w2 := by rw [← hw2, ← hsb]; exact Bk.new _ _ _
  have HB2 : Hid (Below w.heap.size w w2) := Lib.hid (by rw [← hw2]; exact bAlloc _ _)
  have S0 : w2.cell? ⟨sb, 0, none⟩ = some (.int .i64 F) := hk.cell 0
  have S1 : w2.cell? ⟨sb, 1, none⟩ = some (.int .i64 U) := hk.cell 1
  have HE := Lib.hid (And.intro hsb hw2)
  clear hsb hw2 hk
  by_cases h1 : F < -1099511627776
  · go_enter Tryz.func31, Tryz.ntmps31
    go_upto_region 1 with fail
    rw [HE.out.1, HE.out.2]
    clear HE
    go_wp2
    go_ret
    exact LongR.of true rfl (fun e => by simp at e) HB2.out
  by_cases h2 : 1099511627776 < F
  · go_enter Tryz.func31, Tryz.ntmps31
    go_upto_region 1 with fail
    rw [HE.out.1, HE.out.2]
    clear HE
    go_wp2
    go_ret
    exact LongR.of true rfl (fun e => by simp at e) HB2.out
  by_cases h3 : 2199023255552 < U
  · go_enter Tryz.func31, Tryz.ntmps31
    go_upto_region 1 with fail
    rw [HE.out.1, HE.out.2]
    clear HE
    go_wp2
    go_ret
    exact LongR.of true rfl (fun e => by simp at e) HB2.out
  have HV : Hid (wrap64 (U - F) ≤ n → U - F ≤ n) := Lib.hid fun hz => by
    by_cases hin : -9223372036854775808 ≤ U - F
    · unfold wrap64 at hz
      omega
    · unfold wrap64 at hz
      omega
  obtain ⟨z, hz⟩ : ∃ z, wrap64 (U - F) = z := ⟨_, rfl⟩
  have HZ := Lib.hid hz
  rw [hz] at HV
  clear hz
  by_cases h4 : n < z
  · go_enter Tryz.func31, Tryz.ntmps31
    go_upto_region 1 with fail
    rw [HE.out.1, HE.out.2]
    clear HE
    go_wp2
    go_ret
    exact LongR.of _ rfl (fun e => by
      have e2 := of_decide_eq_false e
      have := HZ.out
      omega) HB2.out
  · have HW : Hid (-1099511627776 ≤ F ∧ F ≤ 1099511627776 ∧ U ≤ 2199023255552 ∧ U - F ≤ n) := Lib.hid ⟨by omega, by omega, by omega, HV.out (by omega)⟩
    go_enter Tryz.func31, Tryz.ntmps31
    go_upto_region 1 with fail
    rw [HE.out.1, HE.out.2]
    clear HE
    go_wp2
    go_ret
    exact LongR.of _ rfl (fun _ => HW.out) HB2.out
abbrev OwnRb (B : Nat) (v : Value) (l : List Ab) (w : World) : Prop := Own encAb 5 90 B v l w
theorem rbInfo : (Tryz.prog.info? 90).map (fun i => (i.zero, i.size, i.bytes)) = some (some (.agg #[.int .i64 0, .int .i64 0, .int .i64 0, .int .i64 0, .int .i64 0]), 5, 40) := by kernel_rfl
theorem newsRb (x : Ab) (w : World) : ∀ j u, (encAb x)[j]? = some u → (w.alloc (.cells #[.int .i64 x.fr, .int .i64 x.to, .int .i64 x.ki, .int .i64 x.pa, .int .i64 x.nn] 90)).cell? ⟨w.heap.size, j, none⟩ = some u := by
  intro j u hu
  have h := Bk.new w 90 #[.int .i64 x.fr, .int .i64 x.to, .int .i64 x.ki, .int .i64 x.pa, .int .i64 x.nn]
  rw [h.cell]
  simpa [encAb] using hu
theorem belowRb {B : Nat} {w0 w w' : World} {v : Value} {l : List Ab} (h : Below B w0 w) (hB : B ≤ w.heap.size) (ho : OwnRb B v l w) (hg : w.grownBy w' v.ownBlock) : Below B w0 w' :=
  h.trans ⟨hg.os, hg.tape, hg.output, hg.size, fun i hi => hg.block i (by omega) (ho.far hi)⟩
set_option maxHeartbeats 4000000 in
set_option maxRecDepth 100000 in
theorem lw_AbsentSums (l : List Ab) (A : Option Addr) (c : Nat) (h : Nat → Int) (D : List Int) (AD : Option Addr) (cD : Nat) (F U k : Int) (w : World) (hs : Sl encAb 5 w w.heap.size A l) (hd : ∀ d ∈ D, -9223372036854775808 ≤ d ∧ d ≤ 9223372036854775807) (hsD : Sl encDd 1 w w.heap.size AD D) (hF : -9223372036854775808 ≤ F ∧ F ≤ 9223372036854775807) (hU : -9223372036854775808 ≤ U ∧ U ≤ 9223372036854775807) (hT : Tb w) (hC : Tab w) :
    Calls Tryz.prog 10 #[.slice A l.length c, .agg #[.int .i64 (h 0), .int .i64 (h 1), .int .i64 (h 2), .int .i64 (h 3), .int .i64 (h 4), .int .i64 (h 5), .int .i64 (h 6), .slice AD D.length cD], .agg #[.int .i64 F, .int .i64 U], .int .i64 k] w fun e w' => e = .returned (.bool true) ∧ Below w.heap.size w w' := by
  have HAW : Hid (∀ W, Below w.heap.size w W → Calls Tryz.prog 32 #[] W fun e w' => e = .returned (.bool true) ∧ Below W.heap.size W w') := Lib.hid fun W hW => la_awake18 W (hT.below hW) (tabW hC hW)
  obtain ⟨pb, hpb⟩ : ∃ z, w.heap.size = z := ⟨_, rfl⟩
  obtain ⟨sb, hsb⟩ : ∃ z, pb + 1 = z := ⟨_, rfl⟩
  obtain ⟨w2, hw2⟩ : ∃ z, (w.alloc (.cells #[.int .i64 (h 0), .int .i64 (h 1), .int .i64 (h 2), .int .i64 (h 3), .int .i64 (h 4), .int .i64 (h 5), .int .i64 (h 6), .slice AD D.length cD] 85)).alloc (.cells #[.int .i64 F, .int .i64 U] 31) = z := ⟨_, rfl⟩
  obtain ⟨k1, k2, hb2⟩ := bkk2 w _ _ _ _ hpb hsb hw2
  have HB2 := Lib.hid hb2
  have HKC : Hid (∀ W, Below w2.heap.size w2 W → (W.cell? ⟨pb, 0, none⟩ = some (.int .i64 (h 0)) ∧ W.cell? ⟨pb, 1, none⟩ = some (.int .i64 (h 1)) ∧ W.cell? ⟨pb, 2, none⟩ = some (.int .i64 (h 2)) ∧ W.cell? ⟨pb, 3, none⟩ = some (.int .i64 (h 3)) ∧ W.cell? ⟨pb, 4, none⟩ = some (.int .i64 (h 4)) ∧ W.cell? ⟨pb, 5, none⟩ = some (.int .i64 (h 5)) ∧ W.cell? ⟨pb, 6, none⟩ = some (.int .i64 (h 6)) ∧ W.cell? ⟨pb, 7, none⟩ = some (.slice AD D.length cD)) ∧ W.cell? ⟨sb, 0, none⟩ = some (.int .i64 F) ∧ W.cell? ⟨sb, 1, none⟩ = some (.int .i64 U)) := Lib.hid fun W hW =>
    ⟨⟨bCell hW (k1.cell 0), bCell hW (k1.cell 1), bCell hW (k1.cell 2), bCell hW (k1.cell 3), bCell hW (k1.cell 4), bCell hW (k1.cell 5), bCell hW (k1.cell 6), bCell hW (k1.cell 7)⟩, bCell hW (k2.cell 0), bCell hW (k2.cell 1)⟩
  have HLO := Lib.hid (la_long F U 500 w2 hF hU (by omega))
  have HS2 := Lib.hid (sl_bel hs hb2)
  have HSD2 := Lib.hid (sl_bel hsD hb2)
  have HC2 := Lib.hid (tabW hC hb2)
  have HD := Lib.hid hd
  have HE := Lib.hid (And.intro hpb (And.intro hsb hw2))
  clear hpb hsb hw2 k1 k2 hb2 hs hsD hT hC hd hF hU
  obtain ⟨⟨K0, K1, K2, K3, K4, K5, K6, K7⟩, S0, S1⟩ := HKC.out _ (Below.refl _ _)
  by_cases h30 : (30 : Int) < (l.length : Int)
  · go_enter Tryz.func10, Tryz.ntmps10
    go_upto_region 1 with fail
    rw [HE.out.1, HE.out.2.1, HE.out.2.2]
    clear HE
    go_wp2_with fail
    refine (HAW.out _ HB2.out).mono ?_
    rintro e w3 ⟨rfl, hb3⟩
    have HF := Lib.hid (bTrans HB2.out hb3)
    clear hb3
    go_wp2
    go_ret
    exact ⟨rfl, HF.out⟩
  by_cases h31 : (30 : Int) < (D.length : Int)
  · go_enter Tryz.func10, Tryz.ntmps10
    go_upto_region 1 with fail
    rw [HE.out.1, HE.out.2.1, HE.out.2.2]
    clear HE
    go_wp2_with fail
    refine (HAW.out _ HB2.out).mono ?_
    rintro e w3 ⟨rfl, hb3⟩
    have HF := Lib.hid (bTrans HB2.out hb3)
    clear hb3
    go_wp2
    go_ret
    exact ⟨rfl, HF.out⟩
  go_enter Tryz.func10, Tryz.ntmps10
  go_upto_region 1 with fail
  rw [HE.out.1, HE.out.2.1, HE.out.2.2]
  clear HE
  go_wp2_with fail
  refine HLO.out.mono ?_
  rintro e w3 ⟨lb, rfl, hlb, hb3⟩
  have HB3 := Lib.hid hb3
  have HLB := Lib.hid hlb
  clear hb3 hlb HLO K0 K1 K2 K3 K4 K5 K6 K7 S0 S1
  cases lb with
  | true =>
    go_wp2_with fail
    refine (HAW.out _ (bTrans HB2.out HB3.out)).mono ?_
    rintro e w4 ⟨rfl, hb4⟩
    have HF := Lib.hid (bTrans HB2.out (bTrans HB3.out hb4))
    clear hb4
    go_wp2
    go_ret
    exact ⟨rfl, HF.out⟩
  | false =>
    have HFU := Lib.hid (HLB.out rfl)
    clear HLB
    go_wp2
    go_loopw [9, 30] (fun ov iv wr => ∃ i : Nat, i ≤ l.length ∧ iv = .int .i64 i ∧ (∃ A' c', ov = .slice A' (l.take i).length c' ∧ Hid (OwnRb w3.heap.size (.slice A' (l.take i).length c') (l.take i) wr)) ∧ Hid (Below w3.heap.size w3 wr)) (fun _ iv _ => l.length - (intOf iv).toNat)
    case atStart => exact ⟨0, Nat.zero_le _, rfl, ⟨none, 0, rfl, Lib.hid (Own.nil _)⟩, Lib.hid (Below.refl _ _)⟩
    case round =>
      obtain ⟨i, hi, rfl, ⟨Ao, co, rfl, HO⟩, HB⟩ := hrel
      by_cases hlt : i < l.length
      · obtain ⟨⟨xf, xt, xk, xp, xn⟩, hx⟩ : ∃ x, l[i]? = some x := ⟨_, List.getElem?_eq_getElem hlt⟩
        obtain ⟨g, o, rfl, _, hat⟩ := HS2.out (by intro h; simp [h] at hx)
        have hz := bTrans HB3.out HB.out
        have C0 : wr.cell? ⟨g, o + i * 5, none⟩ = some (.int .i64 xf) := bCell hz (hat i _ hx 0 _ rfl)
        have C1 : wr.cell? ⟨g, o + i * 5 + 1, none⟩ = some (.int .i64 xt) := bCell hz (hat i _ hx 1 _ rfl)
        have C2 : wr.cell? ⟨g, o + i * 5 + 2, none⟩ = some (.int .i64 xk) := bCell hz (hat i _ hx 2 _ rfl)
        have C3 : wr.cell? ⟨g, o + i * 5 + 3, none⟩ = some (.int .i64 xp) := bCell hz (hat i _ hx 3 _ rfl)
        have C4 : wr.cell? ⟨g, o + i * 5 + 4, none⟩ = some (.int .i64 xn) := bCell hz (hat i _ hx 4 _ rfl)
        have HST : Hid (l.take (i + 1) = l.take i ++ [⟨xf, xt, xk, xp, xn⟩]) := Lib.hid (by rw [List.take_add_one, hx]; rfl)
        have hsl : (l.take i).length ≤ 100 := by rw [List.length_take]; omega
        obtain ⟨S, hS⟩ : ∃ S, l.take i = S := ⟨_, rfl⟩
        rw [hS] at HST HO hsl ⊢
        obtain ⟨xb, hxb⟩ : ∃ z, wr.heap.size = z := ⟨_, rfl⟩
        obtain ⟨wx, hwx⟩ : ∃ z, wr.alloc (.cells #[.int .i64 xf, .int .i64 xt, .int .i64 xk, .int .i64 xp, .int .i64 xn] 89) = z := ⟨_, rfl⟩
        have hbx : Below wr.heap.size wr wx := by rw [← hwx]; exact bAlloc _ _
        have hkx : Bk xb 89 #[.int .i64 xf, .int .i64 xt, .int .i64 xk, .int .i64 xp, .int .i64 xn] wx := by rw [← hwx, ← hxb]; exact Bk.new _ _ _
        have HOX : Hid (OwnRb w3.heap.size (.slice Ao S.length co) S wx) := Lib.hid (own_bel HO.out hbx)
        have HBX : Hid (Below w3.heap.size w3 wx) := Lib.hid (bTrans HB.out hbx)
        have X0 : wx.cell? ⟨xb, 0, none⟩ = some (.int .i64 xf) := hkx.cell 0
        have X1 : wx.cell? ⟨xb, 1, none⟩ = some (.int .i64 xt) := hkx.cell 1
        have X2 : wx.cell? ⟨xb, 2, none⟩ = some (.int .i64 xk) := hkx.cell 2
        have X3 : wx.cell? ⟨xb, 3, none⟩ = some (.int .i64 xp) := hkx.cell 3
        have X4 : wx.cell? ⟨xb, 4, none⟩ = some (.int .i64 xn) := hkx.cell 4
        have HZX : Hid (w3.heap.size ≤ wx.heap.size) := Lib.hid HBX.out.size
        have HSL : Hid ((S ++ [(⟨xf, xt, xk, xp, xn⟩ : Ab)]).length = S.length + 1) := Lib.hid (by simp)
        have HNW : Hid (∀ jj u, (encAb ⟨xf, xt, xk, xp, xn⟩)[jj]? = some u → (wx.alloc (.cells #[.int .i64 xf, .int .i64 xt, .int .i64 xk, .int .i64 xp, .int .i64 xn] 90)).cell? ⟨wx.heap.size, jj, none⟩ = some u) := Lib.hid (newsRb ⟨xf, xt, xk, xp, xn⟩ wx)
        have HE := Lib.hid (And.intro hxb hwx)
        have hlt2 : (i : Int) < (l.length : Int) := by omega
        clear hx hat hxb hwx hbx hkx HB HO hS hz
        go_upto_region 7 with fail
        rw [HE.out.1, HE.out.2]
        clear HE C0 C1 C2 C3 C4
        go_wp2_with ((at_builtin; refine wpList_append_row encAb_len encAb_one rfl _ _ 87 rfl w3.heap.size 90 _ 40 Tryz.underlying87 rbInfo rfl (by decide) _ S ⟨xf, xt, xk, xp, xn⟩ rfl (HOX.out.alloc _) wx.heap.size 1 rfl HNW.out (by omega) (by decide) (Nat.le_trans HZX.out (Grows.of_alloc wx _).size) ?_))
        intro v9 w9 hown9 hgr9
        have HB9 : Hid (Below w3.heap.size w3 w9) := Lib.hid (belowRb (HBX.out.trans ((bAlloc wx _).mono HZX.out)) (Nat.le_trans HZX.out (Grows.of_alloc wx _).size) (HOX.out.alloc _) hgr9)
        obtain ⟨A9, c9, rfl, _, _⟩ := own_sl encAb_len hown9
        rw [HSL.out] at hown9 ⊢
        have HO9 := Lib.hid hown9
        clear hown9 hgr9 X0 X1 X2 X3 X4
        go_wp2
        exact ⟨⟨i + 1, by omega, by go_num, by rw [HST.out, HSL.out]; exact ⟨A9, c9, rfl, HO9⟩, HB9⟩, by simp [intOf]; omega⟩
      · obtain rfl : i = l.length := by omega
        rw [List.take_length] at HO ⊢
        obtain ⟨wo, hwo⟩ : ∃ x : World, x = wr := ⟨_, rfl⟩
        subst hwo
        have hsm : Sl encAb 5 wo wo.heap.size Ao l := by
          obtain ⟨Am, cm, em, _, hsm⟩ := own_sl encAb_len HO.out
          injection em with em _ _
          rw [em]
          exact hsm
        have HBO : Hid (Below w2.heap.size w2 wo) := Lib.hid (bTrans HB3.out HB.out)
        have HSU : Hid (Calls Tryz.prog 33 #[.slice Ao l.length co, .agg #[.int .i64 (h 0), .int .i64 (h 1), .int .i64 (h 2), .int .i64 (h 3), .int .i64 (h 4), .int .i64 (h 5), .int .i64 (h 6)], .slice AD D.length cD, .agg #[.int .i64 F, .int .i64 U], .int .i64 k] wo fun e w' => e = .returned (.tuple #[.int .i64 (SU (fSum l k (gMin h D)) F U), .int .i64 (SU (fSum l k (gDay h D)) F U)]) ∧ Below wo.heap.size wo w') := Lib.hid (r18_Sum l Ao co h D AD cD F U k wo (by omega) hsm (by omega) (sl_bel HSD2.out HBO.out) (by have := HFU.out; omega) (by have := HFU.out; omega) (by have := HFU.out; omega))
        have HMI : Hid (∀ W, Below w2.heap.size w2 W → Calls Tryz.prog 34 #[.slice A l.length c, .agg #[.int .i64 (h 0), .int .i64 (h 1), .int .i64 (h 2), .int .i64 (h 3), .int .i64 (h 4), .int .i64 (h 5), .int .i64 (h 6), .slice AD D.length cD], .agg #[.int .i64 F, .int .i64 U], .int .i64 k] W fun e w' => e = .returned (.int .i64 (SU (fSum l k (gMin h D)) F U)) ∧ Below W.heap.size W w') := Lib.hid fun W hW => ab_Minutes l A c h D AD cD F U k W (by omega) (sl_bel HS2.out hW) (by omega) HD.out (sl_bel HSD2.out hW) (tabW HC2.out hW)
        have HDA : Hid (∀ W, Below w2.heap.size w2 W → Calls Tryz.prog 35 #[.slice A l.length c, .agg #[.int .i64 (h 0), .int .i64 (h 1), .int .i64 (h 2), .int .i64 (h 3), .int .i64 (h 4), .int .i64 (h 5), .int .i64 (h 6), .slice AD D.length cD], .agg #[.int .i64 F, .int .i64 U], .int .i64 k] W fun e w' => e = .returned (.int .i64 (SU (fSum l k (gDay h D)) F U)) ∧ Below W.heap.size W w') := Lib.hid fun W hW => ab_Days l A c h D AD cD F U k W (by omega) (sl_bel HS2.out hW) (by omega) HD.out (sl_bel HSD2.out hW) (tabW HC2.out hW)
        obtain ⟨rm, hrm⟩ : ∃ r, SU (fSum l k (gMin h D)) F U = r := ⟨_, rfl⟩
        obtain ⟨rn, hrn⟩ : ∃ r, SU (fSum l k (gDay h D)) F U = r := ⟨_, rfl⟩
        rw [hrm] at HSU HMI
        rw [hrn] at HSU HDA
        clear hrm hrn hlt HO hsm HB HS2 HSD2 HD HC2 HFU
        obtain ⟨⟨K0, K1, K2, K3, K4, K5, K6, K7⟩, S0, S1⟩ := HKC.out _ HBO.out
        go_wp2_with fail
        refine HSU.out.mono ?_
        rintro e w5 ⟨rfl, hb5⟩
        have HB5 : Hid (Below w2.heap.size w2 w5) := Lib.hid (bTrans HBO.out hb5)
        clear hb5 HSU K0 K1 K2 K3 K4 K5 K6 K7 S0 S1
        go_wp2_with fail
        refine (HAW.out _ (bTrans HB2.out HB5.out)).mono ?_
        rintro e w6 ⟨rfl, hb6⟩
        have HB6 : Hid (Below w2.heap.size w2 w6) := Lib.hid (bTrans HB5.out hb6)
        clear hb6
        obtain ⟨⟨K0, K1, K2, K3, K4, K5, K6, K7⟩, S0, S1⟩ := HKC.out _ HB6.out
        go_wp2_with fail
        refine (HMI.out _ HB6.out).mono ?_
        rintro e w7 ⟨rfl, hb7⟩
        have HB7 : Hid (Below w2.heap.size w2 w7) := Lib.hid (bTrans HB6.out hb7)
        clear hb7 K0 K1 K2 K3 K4 K5 K6 K7 S0 S1
        obtain ⟨⟨K0, K1, K2, K3, K4, K5, K6, K7⟩, S0, S1⟩ := HKC.out _ HB7.out
        go_wp2_with fail
        refine (HDA.out _ HB7.out).mono ?_
        rintro e w8 ⟨rfl, hb8⟩
        have HF : Hid (Below w.heap.size w w8) := Lib.hid (bTrans HB2.out (bTrans HB7.out hb8))
        clear hb8 K0 K1 K2 K3 K4 K5 K6 K7 S0 S1
        go_wp2
        go_ret
        exact ⟨rfl, HF.out⟩
end Go.Proofs.YtlgoaohklggcdaaGreatDoor
