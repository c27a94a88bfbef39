import Derived.Test.YtdpejolpjhlibaaGreatDoorIs9
import Derived.Test.YtdpejolpjhlibaaGreatDoorOp9
/- The walk of StoreImports. -/
namespace Go.Proofs.YtdpejolpjhlibaaGreatDoor
open Go.RowKit Go.Sort

theorem impL_len7 (L0 : List Fa) (h0 : L0.length ≤ 4096) : ∀ (l O : List Fa) (p : Nat), O.length ≤ 4096 → (impL L0 O p l).1.length ≤ 4096
  | [], O, p, h => h
  | f :: l, O, p, h => by
    rw [impL]
    split
    · exact impL_len7 L0 h0 l O _ h
    · split
      · exact h0
      · exact impL_len7 L0 h0 l _ _ (addL_len O f h)

set_option maxHeartbeats 4000000 in
set_option maxRecDepth 100000 in
theorem lw_Imports (l m : List Fa) (A B : Option Addr) (ca cb : Nat) (w : World) (hl : l.length ≤ 9223372036854775807) (hm : m.length ≤ 9223372036854775807) (fl : ∀ f ∈ l, FitW f) (fm : ∀ f ∈ m, FitW f) (hL : SlF w A l) (hM : SlF w B m) (hT : Tb w) :
    Calls Tryz.prog 8 #[.slice A l.length ca, .slice B m.length cb] w fun e w' => e = .returned (.bool true) ∧ Below w.heap.size w w' := by
  have HT := Lib.hid hT
  have HL := Lib.hid hL
  have HM := Lib.hid hM
  have HSL := Lib.hid (la_short l A ca w hl hL)
  have HSM : Hid (∀ W, Below w.heap.size w W → Calls Tryz.prog 11 #[.slice B m.length cb] W fun e w' => e = .returned (.bool (shortB m)) ∧ Below W.heap.size W w') := Lib.hid fun W hW => la_short m B cb W hm (hM.below hW)
  have HAW : Hid (∀ W, Below w.heap.size w W → Calls Tryz.prog 12 #[] W fun e w' => e = .returned (.bool true) ∧ Below W.heap.size W w') := Lib.hid fun W hW => la_awake W (hT.below hW)
  obtain ⟨x1, h1⟩ : ∃ x, shortB l = x := ⟨_, rfl⟩
  obtain ⟨x2, h2⟩ : ∃ x, shortB m = x := ⟨_, rfl⟩
  rw [h1] at HSL
  rw [h2] at HSM
  have HF1 : Hid (x1 = true → (∀ f ∈ l, Fit f) ∧ l.length ≤ 30) := Lib.hid fun h => short_all (h1.trans h) fl
  have HF2 : Hid (x2 = true → (∀ f ∈ m, Fit f) ∧ m.length ≤ 30) := Lib.hid fun h => short_all (h2.trans h) fm
  clear h1 h2 hT hL hM fl fm
  cases x1 with
  | false =>
    go_enter Tryz.func8, Tryz.ntmps8
    go_wp2_with fail
    refine HSL.out.mono ?_
    rintro e w1 ⟨rfl, hb1⟩
    have HB1 := Lib.hid hb1
    clear hb1
    go_wp2_with fail
    refine (HAW.out _ HB1.out).mono ?_
    rintro e w2 ⟨rfl, hb2⟩
    have HB2 := Lib.hid (bTrans HB1.out hb2)
    clear hb2
    go_wp2
    go_ret
    exact ⟨rfl, HB2.out⟩
  | true =>
    cases x2 with
    | false =>
      go_enter Tryz.func8, Tryz.ntmps8
      go_wp2_with fail
      refine HSL.out.mono ?_
      rintro e w1 ⟨rfl, hb1⟩
      have HB1 := Lib.hid hb1
      clear hb1
      go_wp2_with fail
      refine (HSM.out _ HB1.out).mono ?_
      rintro e w2 ⟨rfl, hb2⟩
      have HB2 := Lib.hid (bTrans HB1.out hb2)
      clear hb2
      go_wp2_with fail
      refine (HAW.out _ HB2.out).mono ?_
      rintro e w3 ⟨rfl, hb3⟩
      have HB3 := Lib.hid (bTrans HB2.out hb3)
      clear hb3
      go_wp2
      go_ret
      exact ⟨rfl, HB3.out⟩
    | true =>
      obtain ⟨fit1, len1⟩ := HF1.out rfl
      obtain ⟨fit2, len2⟩ := HF2.out rfl
      have FIT1 := Lib.hid fit1
      have FIT2 := Lib.hid fit2
      clear fit1 fit2 HF1 HF2
      go_enter Tryz.func8, Tryz.ntmps8
      go_wp2_with fail
      refine HSL.out.mono ?_
      rintro e w1 ⟨rfl, hb1⟩
      have HB1 := Lib.hid hb1
      clear hb1
      go_wp2_with fail
      refine (HSM.out _ HB1.out).mono ?_
      rintro e w2 ⟨rfl, hb2⟩
      have HB2 := Lib.hid (bTrans HB1.out hb2)
      clear hb2
      obtain ⟨N, p, c, hN⟩ : ∃ N p c, impL [] [] 0 l = (N, p, c) := ⟨_, _, _, rfl⟩
      obtain ⟨U, q, d, hU⟩ : ∃ U q d, impL N N 0 m = (U, q, d) := ⟨_, _, _, rfl⟩
      have hNL : N.length ≤ 4096 := by have := impL_len7 [] (by simp) l [] 0 (by simp); rwa [hN] at this
      have HUL : Hid (U.length ≤ 4096) := Lib.hid (by have := impL_len7 N hNL m N 0 hNL; rwa [hU] at this)
      have HNL := Lib.hid hNL
      have HI1 := Lib.hid (st_Import [] none 0 l A ca w2 (by simp) (by simp) (fun h => absurd rfl h) (by omega) (HL.out.below HB2.out) FIT1.out (HT.out.below HB2.out))
      unfold impR at HI1
      rw [hN] at HI1
      simp only [List.length_nil] at HI1
      go_wp2_with fail
      refine HI1.out.mono ?_
      rintro e w3 ⟨⟨A3, c3, rfl, hc3, hs3⟩, hb3⟩
      obtain ⟨sb, hsb⟩ : ∃ x, w3.heap.size = x := ⟨_, rfl⟩
      obtain ⟨w4, hw4⟩ : ∃ x, w3.alloc (.cells #[.slice A3 N.length c3] 26) = x := ⟨_, rfl⟩
      have hb34 : Below w3.heap.size w3 w4 := by rw [← hw4]; exact bAlloc _ _
      have HB4 : Hid (Below w.heap.size w w4) := Lib.hid (bTrans (bTrans HB2.out hb3) hb34)
      have HK4 : Hid (Bk sb 26 #[.slice A3 N.length c3] w4) := Lib.hid (by rw [← hw4, ← hsb]; exact Bk.new _ _ _)
      have HS4 : Hid (SlF w4 A3 N) := Lib.hid (Sl.below hs3 hb34)
      have HC3 := Lib.hid hc3
      have HE4 := Lib.hid (And.intro hsb hw4)
      have HOF1 := Lib.hid (la_of l A ca w4 (by omega) (HL.out.below HB4.out))
      clear HI1 hc3 hs3 hb3 hb34 hsb hw4
      go_upto_region 4 with fail
      rw [HE4.out.1, HE4.out.2]
      clear HE4
      go_wp2_with fail
      refine HOF1.out.mono ?_
      rintro e w5 ⟨⟨D5, d5, rfl, hd5, hs5⟩, hb5⟩
      have HB5 : Hid (Below w4.heap.size w4 w5) := Lib.hid hb5
      have HI2 := Lib.hid (r9_Import [] none 0 l D5 d5 w5 (by simp) (by simp) (fun h => absurd rfl h) (by omega) hs5 FIT1.out)
      unfold impR9 at HI2
      rw [hN] at HI2
      simp only [List.length_nil] at HI2
      clear hd5 hs5 hb5 HOF1
      go_wp2_with fail
      refine HI2.out.mono ?_
      rintro e w6 ⟨⟨M6, c6, rfl, hc6, hm6⟩, hb6⟩
      have HB6 : Hid (Below w4.heap.size w4 w6) := Lib.hid (bTrans HB5.out hb6)
      have HM6 : Hid (SlF w6 M6 N) := Lib.hid hm6
      have HC6 := Lib.hid hc6
      have HIS := Lib.hid (la_is N A3 M6 c3 c6 w6 HNL.out (HS4.out.below HB6.out) HM6.out)
      have V6 : w6.cell? ⟨sb, 0, none⟩ = some (.slice A3 N.length c3) := bCell HB6.out (HK4.out.cell 0)
      have hpp : (((p : Nat) : Int) != ((p : Nat) : Int)) = false := by simp
      have hcc : (c != c) = false := by simp
      clear hc6 hm6 hb6 HI2
      go_wp2_with fail
      refine HIS.out.mono ?_
      rintro e w7 ⟨rfl, hb7⟩
      have HB7 : Hid (Below w4.heap.size w4 w7) := Lib.hid (bTrans HB6.out hb7)
      have HM7 : Hid (SlF w7 M6 N) := Lib.hid (HM6.out.below hb7)
      clear V6 hb7 HIS hpp hcc
      have V7 : w7.cell? ⟨sb, 0, none⟩ = some (.slice A3 N.length c3) := bCell HB7.out (HK4.out.cell 0)
      have HI3 := Lib.hid (st_Import N A3 c3 m B cb w7 HNL.out HC3.out (HS4.out.below HB7.out) (by omega) (HM.out.below (bTrans HB4.out HB7.out)) FIT2.out (HT.out.below (bTrans HB4.out HB7.out)))
      unfold impR at HI3
      rw [hU] at HI3
      go_wp2_with fail
      refine HI3.out.mono ?_
      rintro e w8 ⟨⟨A8, c8, rfl, hc8, hs8⟩, hb8⟩
      clear V7 HI3
      obtain ⟨tb, htb⟩ : ∃ x, w8.heap.size = x := ⟨_, rfl⟩
      obtain ⟨w9, hw9⟩ : ∃ x, w8.alloc (.cells #[.slice A8 U.length c8] 26) = x := ⟨_, rfl⟩
      have hb89 : Below w8.heap.size w8 w9 := by rw [← hw9]; exact bAlloc _ _
      have hb79 : Below w7.heap.size w7 w9 := bTrans hb8 hb89
      have HB9 : Hid (Below w4.heap.size w4 w9) := Lib.hid (bTrans HB7.out hb79)
      have HK9 : Hid (Bk tb 26 #[.slice A8 U.length c8] w9) := Lib.hid (by rw [← hw9, ← htb]; exact Bk.new _ _ _)
      have HS9 : Hid (SlF w9 A8 U) := Lib.hid (Sl.below hs8 hb89)
      have HM9 : Hid (SlF w9 M6 N) := Lib.hid (HM7.out.below hb79)
      have HE9 := Lib.hid (And.intro htb hw9)
      have HOF2 := Lib.hid (la_of m B cb w9 (by omega) (HM.out.below (bTrans HB4.out HB9.out)))
      clear hc8 hs8 hb8 hb89 hb79 htb hw9
      go_upto_region 8 with fail
      rw [HE9.out.1, HE9.out.2]
      clear HE9
      go_wp2_with fail
      refine HOF2.out.mono ?_
      rintro e w10 ⟨⟨D10, d10, rfl, hd10, hs10⟩, hb10⟩
      have HB10 : Hid (Below w9.heap.size w9 w10) := Lib.hid hb10
      have HI4 := Lib.hid (r9_Import N M6 c6 m D10 d10 w10 HNL.out HC6.out (HM9.out.below hb10) (by omega) hs10 FIT2.out)
      unfold impR9 at HI4
      rw [hU] at HI4
      clear hd10 hs10 hb10 HOF2
      go_wp2_with fail
      refine HI4.out.mono ?_
      rintro e w11 ⟨⟨M11, c11, rfl, hc11, hm11⟩, hb11⟩
      have HB11 : Hid (Below w9.heap.size w9 w11) := Lib.hid (bTrans HB10.out hb11)
      have HM11 : Hid (SlF w11 M11 U) := Lib.hid hm11
      have hqq : (((q : Nat) : Int) == ((q : Nat) : Int)) = true := by simp
      have hdd : (d == d) = true := by simp
      have HAW2 := Lib.hid (HAW.out w11 (bTrans (bTrans HB4.out HB9.out) HB11.out))
      clear hc11 hm11 hb11 HI4
      go_wp2_with fail
      refine HAW2.out.mono ?_
      rintro e w12 ⟨rfl, hb12⟩
      have HB12 : Hid (Below w9.heap.size w9 w12) := Lib.hid (bTrans HB11.out hb12)
      have HIT := Lib.hid (la_is U A8 M11 c8 c11 w12 HUL.out (HS9.out.below HB12.out) (HM11.out.below hb12))
      have V12 : w12.cell? ⟨tb, 0, none⟩ = some (.slice A8 U.length c8) := bCell HB12.out (HK9.out.cell 0)
      clear hb12 HAW2
      go_wp2_with fail
      refine HIT.out.mono ?_
      rintro e w13 ⟨rfl, hb13⟩
      have HB13 : Hid (Below w9.heap.size w9 w13) := Lib.hid (bTrans HB12.out hb13)
      have HIS2 := Lib.hid (la_is N A3 M6 c3 c6 w13 HNL.out (HS4.out.below (bTrans HB9.out HB13.out)) (HM9.out.below HB13.out))
      have V13 : w13.cell? ⟨sb, 0, none⟩ = some (.slice A3 N.length c3) := bCell (bTrans HB9.out HB13.out) (HK4.out.cell 0)
      clear V12 hb13 HIT
      go_wp2_with fail
      refine HIS2.out.mono ?_
      rintro e w14 ⟨rfl, hb14⟩
      have HB14 : Hid (Below w.heap.size w w14) := Lib.hid (bTrans (bTrans HB4.out HB9.out) (bTrans HB13.out hb14))
      clear V13 hb14 HIS2
      go_wp2
      go_ret
      exact ⟨rfl, HB14.out⟩
end Go.Proofs.YtdpejolpjhlibaaGreatDoor
