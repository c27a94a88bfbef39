import Derived.Test.YtdpejolpjhlibaaGreatDoorUst
import Derived.Test.YtdpejolpjhlibaaGreatDoorOp9
/- The walk of StoreViews. -/
namespace Go.Proofs.YtdpejolpjhlibaaGreatDoor
open Go.RowKit Go.Sort

theorem len_takeN (L : List Fa) (n : Int) : (L.take (atN L n)).length = atN L n := by
  rw [List.length_take]; unfold atN; omega
theorem SlF.take_ {w : World} {A : Option Addr} {L : List Fa} (h : SlF w A L) (k : Nat) : SlF w A (L.take k) := Sl.take_ h k

set_option maxHeartbeats 8000000 in
set_option maxRecDepth 100000 in
theorem lw_Views (l : List Fa) (A : Option Addr) (ca : Nat) (na : Int) (w : World) (hl : l.length ≤ 9223372036854775807) (fl : ∀ f ∈ l, FitW f) (hL : SlF w A l) (hT : Tb w) :
    Calls Tryz.prog 10 #[.slice A l.length ca, .int .i64 na] w fun e w' => e = .returned (.bool true) ∧ Below w.heap.size w w' := by
  have HT := Lib.hid hT
  have HL := Lib.hid hL
  have HSL := Lib.hid (la_short l A ca w hl hL)
  have HAW : Hid (∀ W, Below w.heap.size w W → Calls Tryz.prog 12 #[] W fun e w' => e = .returned (.bool true) ∧ Below W.heap.size W w') := Lib.hid fun W hW => la_awake W (hT.below hW)
  obtain ⟨x1, h1⟩ : ∃ x, shortB l = x := ⟨_, rfl⟩
  rw [h1] at HSL
  have HF1 : Hid (x1 = true → (∀ f ∈ l, Fit f) ∧ l.length ≤ 30) := Lib.hid fun h => short_all (h1.trans h) fl
  clear h1 hT hL fl
  cases x1 with
  | false =>
    go_enter Tryz.func10, Tryz.ntmps10
    go_wp2_with fail
    refine HSL.out.mono ?_
    rintro e w1 ⟨rfl, hb1⟩
    have HB1 := Lib.hid hb1
    clear hb1
    go_wp2_with fail
    refine (HAW.out _ HB1.out).mono ?_
    rintro e w2 ⟨rfl, hb2⟩
    have HB2 := Lib.hid (bTrans HB1.out hb2)
    clear hb2
    go_wp2
    go_ret
    exact ⟨rfl, HB2.out⟩
  | true =>
    obtain ⟨fit1, len1⟩ := HF1.out rfl
    have FIT1 := Lib.hid fit1
    clear fit1 HF1
    go_enter Tryz.func10, Tryz.ntmps10
    go_wp2_with fail
    refine HSL.out.mono ?_
    rintro e w1 ⟨rfl, hb1⟩
    have HB1 := Lib.hid hb1
    clear hb1
    obtain ⟨sb, hsb⟩ : ∃ x, w1.heap.size = x := ⟨_, rfl⟩
    obtain ⟨w3, hw3⟩ : ∃ x, w1.alloc (.cells #[.slice none 0 0] 26) = x := ⟨_, rfl⟩
    have HV3 : Hid (StV sb [] w3) := Lib.hid ⟨none, 0, by rw [← hw3, ← hsb]; exact Bk.new _ _ _, Nat.le_refl _, fun h => absurd rfl h⟩
    have HB3 : Hid (Below w.heap.size w w3) := Lib.hid (by rw [← hw3]; exact bTrans HB1.out (bAlloc _ _))
    have HSW : Hid (w.heap.size ≤ sb) := Lib.hid (by rw [← hsb]; exact HB1.out.size)
    go_upto_region 4 with fail
    clear hsb hw3
    go_wp2
    go_loopg [6, 15] l.length (fun n mv iv wr => ∃ (k cm : Nat) (M : Option Addr), k + n = l.length ∧ iv = .int .i64 k ∧ mv = .slice M (tellL [] (l.take k)).length cm ∧ Hid ((tellL [] (l.take k)).length ≤ cm ∧ SlF wr M (tellL [] (l.take k))) ∧ Hid (StV sb (tellL [] (l.take k)) wr) ∧ Hid (Below w.heap.size w wr))
    case atStart => exact ⟨0, 0, none, by omega, rfl, rfl, Lib.hid ⟨Nat.le_refl _, fun h => absurd rfl h⟩, HV3, HB3⟩
    case round =>
      obtain ⟨k, cm, M, hk, rfl, rfl, HM, HV, HB⟩ := hrel
      by_cases hlt : k < l.length
      · obtain ⟨b, off, rfl, hbl, hat⟩ := SlF.open_ HL.out (by intro h; simp [h] at hlt)
        obtain ⟨f, hx⟩ : ∃ x, l[k]? = some x := ⟨_, List.getElem?_eq_getElem hlt⟩
        obtain ⟨C0, C1, C2, C3, C4, C5, C6, C7⟩ := (hat k f hx).below HB.out
        have HNX := Lib.hid (tellL_take (L := []) hx)
        have HFF := Lib.hid (FIT1.out f (List.mem_of_getElem? hx))
        have HLN : (tellL [] (l.take k)).length ≤ 4096 := by have := tellL_len (l.take k) []; rw [List.length_take] at this; (try simp only [List.length_nil] at this); omega
        obtain ⟨T, hTT⟩ : ∃ T, tellL [] (l.take k) = T := ⟨_, rfl⟩
        rw [hTT] at HNX HLN HM
        obtain ⟨A1, c1, hv1, hv2, hv3⟩ : StV sb T wr := by rw [← hTT]; exact HV.out
        obtain ⟨N, en, hN⟩ : ∃ N en, addL T f = (N, en) := ⟨_, _, rfl⟩
        have HNX2 : Hid (tellL [] (l.take (k + 1)) = N) := Lib.hid (by rw [HNX.out, hN])
        obtain ⟨fb, hfb⟩ : ∃ x, wr.heap.size = x := ⟨_, rfl⟩
        obtain ⟨w4, hw4⟩ : ∃ x, wr.alloc (.cells (FA f) 31) = x := ⟨_, rfl⟩
        have HF4 : Hid (Bk fb 31 (FA f) w4) := Lib.hid (by rw [← hw4, ← hfb]; exact Bk.new _ _ _)
        have hbr4 : Below wr.heap.size wr w4 := by rw [← hw4]; exact bAlloc _ _
        have HB4 : Hid (Below w.heap.size w w4) := Lib.hid (bTrans HB.out hbr4)
        have HS4 : Hid (SlF w4 A1 T) := Lib.hid (hv3.below hbr4)
        have HM4 : Hid (SlF w4 M T) := Lib.hid (HM.out.2.below hbr4)
        have HMC : Hid (T.length ≤ cm) := Lib.hid HM.out.1
        have HK4 : Hid (Bk sb 26 #[.slice A1 T.length c1] w4) := Lib.hid ((hbr4.block sb hv1.lt).trans hv1)
        have HFS : Hid (fb ≠ sb) := Lib.hid (by have := hv1.lt; omega)
        have HADD := Lib.hid (st_Add T A1 c1 f w4 HLN hv2 HS4.out HFF.out (HT.out.below HB4.out))
        unfold addR at HADD
        rw [hN] at HADD
        unfold FA at hw4 HADD
        have HE4 := Lib.hid (And.intro hfb hw4)
        rw [hTT]
        have HN := Lib.hid hN
        clear hat hx hTT hv1 hv2 hv3 hfb hw4 hbr4 HM HV HNX hN
        go_upto_region 8 with fail
        rw [HE4.out.1, HE4.out.2]
        clear C0 C1 C2 C3 C4 C5 C6 C7 HE4
        have V4 : w4.cell? ⟨sb, 0, none⟩ = some (.slice A1 T.length c1) := HK4.out.cell 0
        have F0 : w4.cell? ⟨fb, 0, none⟩ = some (.int .u32 f.id) := HF4.out.cell 0
        have F1 : w4.cell? ⟨fb, 1, none⟩ = some (.int .u32 f.pe) := HF4.out.cell 1
        have F2 : w4.cell? ⟨fb, 2, none⟩ = some (.int .i64 f.ki) := HF4.out.cell 2
        have F3 : w4.cell? ⟨fb, 3, none⟩ = some (.int .i64 f.fr) := HF4.out.cell 3
        have F4 : w4.cell? ⟨fb, 4, none⟩ = some (.int .i64 f.to) := HF4.out.cell 4
        have F5 : w4.cell? ⟨fb, 5, none⟩ = some (.string f.co) := HF4.out.cell 5
        have F6 : w4.cell? ⟨fb, 6, none⟩ = some (.int .i64 f.nu) := HF4.out.cell 6
        have F7 : w4.cell? ⟨fb, 7, none⟩ = some (.string f.tx) := HF4.out.cell 7
        go_wp2_with fail
        refine HADD.out.mono ?_
        rintro e w5 ⟨⟨A2, c2, rfl, hc2, hs2⟩, hb5⟩
        clear V4 F0 F1 F2 F3 F4 F5 F6 F7 HADD
        have hk5 : Bk sb 26 #[.slice A1 T.length c1] w5 := (hb5.block sb HK4.out.lt).trans HK4.out
        have V5 : w5.cell? ⟨sb, 0, none⟩ = some (.slice A1 T.length c1) := Bk.cell hk5 0
        have D5 : w5.frozen? ⟨sb, 0, none⟩ = false := Bk.frozen hk5 0
        obtain ⟨w6, hw6⟩ : ∃ x, w5.setCell ⟨sb, 0, none⟩ (.slice A2 N.length c2) = x := ⟨_, rfl⟩
        have HV6 : Hid (StV sb N w6) := Lib.hid ⟨A2, c2, by rw [← hw6]; exact hk5.set_ 0 _, hc2, by rw [← hw6]; exact hs2.keepRe hk5 _⟩
        have HB6 : Hid (Below w.heap.size w w6) := Lib.hid (by rw [← hw6]; exact (bTrans HB4.out hb5).setCell (p := ⟨sb, 0, none⟩) HSW.out _)
        have HM6 : Hid (SlF w6 M T) := Lib.hid (by rw [← hw6]; exact SlF.keepRe (HM4.out.below hb5) hk5 _)
        have HF6 : Hid (Bk fb 31 (FA f) w6) := Lib.hid (by rw [← hw6]; exact (heap_setCell_other w5 ⟨sb, 0, none⟩ fb _ HFS.out).trans ((hb5.block fb HF4.out.lt).trans HF4.out))
        have HE6 := Lib.hid hw6
        have HAD9 := Lib.hid (r9_Add T M cm f w6 HLN HMC.out HM6.out HFF.out)
        unfold addR9 at HAD9
        rw [HN.out] at HAD9
        unfold FA at HAD9
        clear hk5 hw6 hc2 hs2 hb5
        go_upto_region 9 with fail
        rw [HE6.out]
        clear V5 D5 HE6
        have F0 : w6.cell? ⟨fb, 0, none⟩ = some (.int .u32 f.id) := HF6.out.cell 0
        have F1 : w6.cell? ⟨fb, 1, none⟩ = some (.int .u32 f.pe) := HF6.out.cell 1
        have F2 : w6.cell? ⟨fb, 2, none⟩ = some (.int .i64 f.ki) := HF6.out.cell 2
        have F3 : w6.cell? ⟨fb, 3, none⟩ = some (.int .i64 f.fr) := HF6.out.cell 3
        have F4 : w6.cell? ⟨fb, 4, none⟩ = some (.int .i64 f.to) := HF6.out.cell 4
        have F5 : w6.cell? ⟨fb, 5, none⟩ = some (.string f.co) := HF6.out.cell 5
        have F6 : w6.cell? ⟨fb, 6, none⟩ = some (.int .i64 f.nu) := HF6.out.cell 6
        have F7 : w6.cell? ⟨fb, 7, none⟩ = some (.string f.tx) := HF6.out.cell 7
        go_wp2_with fail
        refine HAD9.out.mono ?_
        rintro e w7 ⟨⟨M2, d2, rfl, hd2, hm2⟩, hb7⟩
        have HM7 : Hid (N.length ≤ d2 ∧ SlF w7 M2 N) := Lib.hid ⟨hd2, hm2⟩
        have HV7 : Hid (StV sb N w7) := Lib.hid (HV6.out.below hb7)
        have HB7 : Hid (Below w.heap.size w w7) := Lib.hid (bTrans HB6.out hb7)
        clear F0 F1 F2 F3 F4 F5 F6 F7 HAD9 hd2 hm2 hb7
        go_wp2
        go_roundg (l.length - (k + 1))
        case measure => omega
        case rel => exact ⟨k + 1, d2, M2, by omega, by go_num, by rw [HNX2.out], Lib.hid (by rw [HNX2.out]; exact HM7.out), Lib.hid (by rw [HNX2.out]; exact HV7.out), HB7⟩
      · obtain rfl : k = l.length := by omega
        have HT0 : Hid (tellL [] (l.take l.length) = tellL [] l) := Lib.hid (by rw [List.take_length])
        obtain ⟨T0, hT0⟩ : ∃ T, tellL [] l = T := ⟨_, rfl⟩
        have HLT : T0.length ≤ 30 := by rw [← hT0]; have := tellL_len l []; rw [List.length_nil] at this; omega
        have HTD : Hid (Told T0) := Lib.hid (by rw [← hT0]; exact told_tell Told.nil)
        have hv : StV sb T0 wr := by rw [← hT0, ← HT0.out]; exact HV.out
        have HM1 : Hid (SlF wr M T0) := Lib.hid (by rw [← hT0, ← HT0.out]; exact HM.out.2)
        have HMC1 : Hid (T0.length ≤ cm) := Lib.hid (by rw [← hT0, ← HT0.out]; exact HM.out.1)
        rw [HT0.out, hT0]
        clear HT0 HM HV hT0 hlt hk
        obtain ⟨A1, c1, hk1, hc1, hs1⟩ := hv
        have HK1 : Hid (∀ W, Below wr.heap.size wr W → W.cell? ⟨sb, 0, none⟩ = some (.slice A1 T0.length c1)) := Lib.hid fun W hW => (show Bk sb 26 #[.slice A1 T0.length c1] W from (hW.block sb hk1.lt).trans hk1).cell 0
        have HS1 : Hid (SlF wr A1 T0) := Lib.hid hs1
        have HAT : Hid (∀ n W, Calls Tryz.prog 17 #[.agg #[.slice A1 T0.length c1], .int .i64 n] W fun e w' => e = .returned (.agg #[.slice A1 (atN T0 n) (atN T0 n)]) ∧ Below W.heap.size W w') := Lib.hid fun n W => st_At T0 A1 c1 n W (by omega) hc1
        obtain ⟨p, hp⟩ : ∃ z, atN T0 na = z := ⟨_, rfl⟩
        have hpl : (T0.take p).length = p := by rw [← hp]; exact len_takeN T0 na
        have hql : atN T0 (T0.length : Int) = T0.length := by unfold atN; omega
        have HA1 : Hid (∀ W, Calls Tryz.prog 17 #[.agg #[.slice A1 T0.length c1], .int .i64 na] W fun e w' => e = .returned (.agg #[.slice A1 p p]) ∧ Below W.heap.size W w') := Lib.hid (by rw [← hp]; exact HAT.out na)
        have HA2 : Hid (∀ W, Calls Tryz.prog 17 #[.agg #[.slice A1 T0.length c1], .int .i64 T0.length] W fun e w' => e = .returned (.agg #[.slice A1 T0.length T0.length]) ∧ Below W.heap.size W w') := Lib.hid (by have h := HAT.out (T0.length : Int); rw [hql] at h; exact h)
        have HR1 : Hid (∀ W, Calls Tryz.prog 19 #[.slice M T0.length cm, .int .i64 na] W fun e w' => e = .returned (.slice M p cm) ∧ w' = W) := Lib.hid fun W => by
          have h := r9_At T0 M cm na W (by omega) HMC1.out
          rw [hp] at h
          exact h
        have HV1 : Hid (∀ W, Below wr.heap.size wr W → Calls Tryz.prog 28 #[.agg #[.slice A1 p p], .slice M p cm] W fun e w' => e = .returned (.bool true) ∧ Below W.heap.size W w') := Lib.hid fun W hW => by
          have h := la_view (T0.take p) A1 M p cm W (by rw [List.length_take]; omega) (HTD.out.take p) ((HS1.out.below hW).take_ p) ((HM1.out.below hW).take_ p)
          rw [hpl] at h
          exact h
        have HV2 : Hid (∀ W, Below wr.heap.size wr W → Calls Tryz.prog 28 #[.agg #[.slice A1 T0.length T0.length], .slice M T0.length cm] W fun e w' => e = .returned (.bool true) ∧ Below W.heap.size W w') := Lib.hid fun W hW =>
          la_view T0 A1 M T0.length cm W (by omega) HTD.out (HS1.out.below hW) (HM1.out.below hW)
        clear hk1 hs1 hc1 hp hpl hql HAT HS1 HM1 HMC1 HTD
        go_wp2_with fail
        refine (HAW.out _ HB.out).mono ?_
        rintro e w5 ⟨rfl, hb5⟩
        have HB5 : Hid (Below wr.heap.size wr w5) := Lib.hid hb5
        have S5 := HK1.out _ HB5.out
        clear hb5
        go_wp2_with fail
        refine (HA1.out _).mono ?_
        rintro e w6 ⟨rfl, hb6⟩
        have HB6 : Hid (Below wr.heap.size wr w6) := Lib.hid (bTrans HB5.out hb6)
        clear hb6 S5 HB5
        go_wp2_with fail
        refine (HR1.out _).mono ?_
        rintro e w7 ⟨rfl, hw7⟩
        have hw7s := hw7.symm
        subst hw7s
        clear hw7
        go_wp2_with fail
        refine (HV1.out _ HB6.out).mono ?_
        rintro e w8 ⟨rfl, hb8⟩
        have HB8 : Hid (Below wr.heap.size wr w8) := Lib.hid (bTrans HB6.out hb8)
        have S8 := HK1.out _ HB8.out
        clear hb8 HB6
        go_wp2_with fail
        refine (HA2.out _).mono ?_
        rintro e w9 ⟨rfl, hb9⟩
        have HB9 : Hid (Below wr.heap.size wr w9) := Lib.hid (bTrans HB8.out hb9)
        clear hb9 HB8 S8
        go_wp2_with fail
        refine (HV2.out _ HB9.out).mono ?_
        rintro e w10 ⟨rfl, hb10⟩
        have HB10 : Hid (Below w.heap.size w w10) := Lib.hid (bTrans HB.out (bTrans HB9.out hb10))
        clear hb10 HB9
        go_wp2
        go_ret
        exact ⟨rfl, HB10.out⟩
end Go.Proofs.YtdpejolpjhlibaaGreatDoor
