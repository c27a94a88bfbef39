import Derived.Test.YtdpejolpjhlibaaGreatDoorSpc
/- The walk of StoreChanges. -/
namespace Go.Proofs.YtdpejolpjhlibaaGreatDoor
open Go.RowKit Go.Sort

theorem len_take_atN (L : List Fa) (n : Int) : (L.take (atN L n)).length = atN L n := by
  rw [List.length_take]; unfold atN; omega
theorem atN_le {L : List Fa} {n : Int} {k : Nat} (h : L.length ≤ k) : atN L n ≤ k := by unfold atN; omega
theorem chg_len {P Q : List Fa} (hp : P.length ≤ 4096) (hq : Q.length ≤ 4096) : (changedL P Q).length ≤ 1000000 := by
  rw [changedL_len]
  have h1 := bothL_len (forceL P) (forceL Q)
  have h2 := forceL_len P
  have h3 := forceL_len Q
  omega
/-- A store in another variable. -/
theorem StV.other8 {sa sb : Nat} {w W : World} {T v : Value} {L : List Fa} (h : StV sa L W) (hb : Bk sb 26 #[T] W) (hne : sa ≠ sb) (hW : W.setCell ⟨sb, 0, none⟩ v = w) : StV sa L w := by
  subst hW
  obtain ⟨A, cap, h1, h2, h3⟩ := h
  exact ⟨A, cap, (heap_setCell_other W ⟨sb, 0, none⟩ sa v hne).trans h1, h2, h3.keepRe hb v⟩

set_option maxHeartbeats 8000000 in
set_option maxRecDepth 100000 in
theorem lw_Changes (l m : List Fa) (A B : Option Addr) (ca cb : Nat) (na nb : Int) (w : World) (hl : l.length ≤ 9223372036854775807) (hm : m.length ≤ 9223372036854775807) (fl : ∀ f ∈ l, FitW f) (fm : ∀ f ∈ m, FitW f) (hL : SlF w A l) (hM : SlF w B m) (hT : Tb w) :
    Calls Tryz.prog 3 #[.slice A l.length ca, .slice B m.length cb, .int .i64 na, .int .i64 nb] w fun e w' => e = .returned (.bool true) ∧ Below w.heap.size w w' := by
  have HT := Lib.hid hT
  have HL := Lib.hid hL
  have HMB := Lib.hid hM
  have HSL := Lib.hid (la_short l A ca w hl hL)
  have HSM : Hid (∀ W, Below w.heap.size w W → Calls Tryz.prog 11 #[.slice B m.length cb] W fun e w' => e = .returned (.bool (shortB m)) ∧ Below W.heap.size W w') := Lib.hid fun W hW => la_short m B cb W hm (hM.below hW)
  have HAW : Hid (∀ W, Below w.heap.size w W → Calls Tryz.prog 12 #[] W fun e w' => e = .returned (.bool true) ∧ Below W.heap.size W w') := Lib.hid fun W hW => la_awake W (hT.below hW)
  obtain ⟨x1, h1⟩ : ∃ x, shortB l = x := ⟨_, rfl⟩
  obtain ⟨x2, h2⟩ : ∃ x, shortB m = x := ⟨_, rfl⟩
  rw [h1] at HSL
  rw [h2] at HSM
  have HF1 : Hid (x1 = true → (∀ f ∈ l, Fit f) ∧ l.length ≤ 30) := Lib.hid fun h => short_all (h1.trans h) fl
  have HF2 : Hid (x2 = true → (∀ f ∈ m, Fit f) ∧ m.length ≤ 30) := Lib.hid fun h => short_all (h2.trans h) fm
  clear h1 h2 hT hL hM fl fm
  cases x1 with
  | false =>
    go_enter Tryz.func3, Tryz.ntmps3
    go_wp2_with fail
    refine HSL.out.mono ?_
    rintro e w1 ⟨rfl, hb1⟩
    have HB1 := Lib.hid hb1
    clear hb1
    go_wp2_with fail
    refine (HAW.out _ HB1.out).mono ?_
    rintro e w2 ⟨rfl, hb2⟩
    have HB2 := Lib.hid (bTrans HB1.out hb2)
    clear hb2
    go_wp2
    go_ret
    exact ⟨rfl, HB2.out⟩
  | true =>
    cases x2 with
    | false =>
      go_enter Tryz.func3, Tryz.ntmps3
      go_wp2_with fail
      refine HSL.out.mono ?_
      rintro e w1 ⟨rfl, hb1⟩
      have HB1 := Lib.hid hb1
      clear hb1
      go_wp2_with fail
      refine (HSM.out _ HB1.out).mono ?_
      rintro e w2 ⟨rfl, hb2⟩
      have HB2 := Lib.hid (bTrans HB1.out hb2)
      clear hb2
      go_wp2_with fail
      refine (HAW.out _ HB2.out).mono ?_
      rintro e w3 ⟨rfl, hb3⟩
      have HB3 := Lib.hid (bTrans HB2.out hb3)
      clear hb3
      go_wp2
      go_ret
      exact ⟨rfl, HB3.out⟩
    | true =>
      obtain ⟨fit1, len1⟩ := HF1.out rfl
      obtain ⟨fit2, len2⟩ := HF2.out rfl
      have FIT1 := Lib.hid fit1
      have FIT2 := Lib.hid fit2
      clear fit1 fit2 HF1 HF2
      go_enter Tryz.func3, Tryz.ntmps3
      go_wp2_with fail
      refine HSL.out.mono ?_
      rintro e w1 ⟨rfl, hb1⟩
      have HB1 := Lib.hid hb1
      clear hb1
      go_wp2_with fail
      refine (HSM.out _ HB1.out).mono ?_
      rintro e w2 ⟨rfl, hb2⟩
      have HB2 := Lib.hid (bTrans HB1.out hb2)
      clear hb2
      obtain ⟨sb, hsb⟩ : ∃ x, w2.heap.size = x := ⟨_, rfl⟩
      obtain ⟨tb, htb⟩ : ∃ x, sb + 1 = x := ⟨_, rfl⟩
      obtain ⟨w3, hw3⟩ : ∃ x, (w2.alloc (.cells #[.slice none 0 0] 26)).alloc (.cells #[.slice none 0 0] 26) = x := ⟨_, rfl⟩
      have hbk := bk2 w2 _ _ _ hsb htb hw3
      have HV3 : Hid (StV sb [] w3) := Lib.hid ⟨none, 0, hbk.1, Nat.le_refl _, fun h => absurd rfl h⟩
      have HU3 : Hid (StV tb [] w3) := Lib.hid ⟨none, 0, hbk.2.1, Nat.le_refl _, fun h => absurd rfl h⟩
      have HB3 : Hid (Below w.heap.size w w3) := Lib.hid (bTrans HB2.out hbk.2.2)
      have HSW : Hid (w.heap.size ≤ sb) := Lib.hid (by rw [← hsb]; exact HB2.out.size)
      have HTW : Hid (w.heap.size ≤ tb) := Lib.hid (by have := HSW.out; omega)
      have HNE : Hid (tb ≠ sb) := Lib.hid (by omega)
      have HNE2 : Hid (sb ≠ tb) := Lib.hid (by omega)
      clear hbk
      go_upto_region 4 with fail
      clear hsb htb hw3
      go_wp2
      go_loopw [11, 28] (fun mv iv wr => ∃ (k cm : Nat) (M : Option Addr), k ≤ l.length ∧ iv = .int .i64 k ∧ mv = .slice M (tellL [] (l.take k)).length cm ∧ Hid ((tellL [] (l.take k)).length ≤ cm ∧ SlF wr M (tellL [] (l.take k))) ∧ Hid (StV sb (tellL [] (l.take k)) wr) ∧ Hid (StV tb [] wr) ∧ Hid (Below w.heap.size w wr)) (fun _ iv _ => l.length - (intOf iv).toNat)
      case atStart => exact ⟨0, 0, none, Nat.zero_le _, rfl, rfl, Lib.hid ⟨Nat.le_refl _, fun h => absurd rfl h⟩, HV3, HU3, HB3⟩
      case round =>
        obtain ⟨k, cm, M, hk, rfl, rfl, HM, HV, HO, HB⟩ := hrel
        by_cases hlt : k < l.length
        · obtain ⟨b, off, rfl, hbl, hat⟩ := SlF.open_ HL.out (by intro h; simp [h] at hlt)
          obtain ⟨f, hx⟩ : ∃ x, l[k]? = some x := ⟨_, List.getElem?_eq_getElem hlt⟩
          obtain ⟨C0, C1, C2, C3, C4, C5, C6, C7⟩ := (hat k f hx).below HB.out
          have HNX := Lib.hid (tellL_take (L := []) hx)
          have HFF := Lib.hid (FIT1.out f (List.mem_of_getElem? hx))
          have HLN : (tellL [] (l.take k)).length ≤ 4096 := by have := tellL_len (l.take k) []; rw [List.length_take] at this; (try simp only [List.length_nil] at this); omega
          obtain ⟨T, hTT⟩ : ∃ T, tellL [] (l.take k) = T := ⟨_, rfl⟩
          rw [hTT] at HNX HLN HM
          obtain ⟨A1, c1, hv1, hv2, hv3⟩ : StV sb T wr := by rw [← hTT]; exact HV.out
          obtain ⟨N, en, hN⟩ : ∃ N en, addL T f = (N, en) := ⟨_, _, rfl⟩
          have HNX2 : Hid (tellL [] (l.take (k + 1)) = N) := Lib.hid (by rw [HNX.out, hN])
          obtain ⟨fb, hfb⟩ : ∃ x, wr.heap.size = x := ⟨_, rfl⟩
          obtain ⟨w4, hw4⟩ : ∃ x, wr.alloc (.cells (FA f) 31) = x := ⟨_, rfl⟩
          have HF4 : Hid (Bk fb 31 (FA f) w4) := Lib.hid (by rw [← hw4, ← hfb]; exact Bk.new _ _ _)
          have hbr4 : Below wr.heap.size wr w4 := by rw [← hw4]; exact bAlloc _ _
          have HB4 : Hid (Below w.heap.size w w4) := Lib.hid (bTrans HB.out hbr4)
          have HS4 : Hid (SlF w4 A1 T) := Lib.hid (hv3.below hbr4)
          have HM4 : Hid (SlF w4 M T) := Lib.hid (HM.out.2.below hbr4)
          have HMC : Hid (T.length ≤ cm) := Lib.hid HM.out.1
          have HK4 : Hid (Bk sb 26 #[.slice A1 T.length c1] w4) := Lib.hid ((hbr4.block sb hv1.lt).trans hv1)
          have HO4 : Hid (StV tb [] w4) := Lib.hid (HO.out.below hbr4)
          have HFS : Hid (fb ≠ sb) := Lib.hid (by have := hv1.lt; omega)
          have HADD := Lib.hid (st_Add T A1 c1 f w4 HLN hv2 HS4.out HFF.out (HT.out.below HB4.out))
          unfold addR at HADD
          rw [hN] at HADD
          unfold FA at hw4 HADD
          have HE4 := Lib.hid (And.intro hfb hw4)
          rw [hTT]
          have HN := Lib.hid hN
          clear hat hx hTT hv1 hv2 hv3 hfb hw4 hbr4 HM HV HNX hN HO
          go_upto_region 8 with fail
          rw [HE4.out.1, HE4.out.2]
          clear C0 C1 C2 C3 C4 C5 C6 C7 HE4
          have V4 : w4.cell? ⟨sb, 0, none⟩ = some (.slice A1 T.length c1) := HK4.out.cell 0
          have F0 : w4.cell? ⟨fb, 0, none⟩ = some (.int .u32 f.id) := HF4.out.cell 0
          have F1 : w4.cell? ⟨fb, 1, none⟩ = some (.int .u32 f.pe) := HF4.out.cell 1
          have F2 : w4.cell? ⟨fb, 2, none⟩ = some (.int .i64 f.ki) := HF4.out.cell 2
          have F3 : w4.cell? ⟨fb, 3, none⟩ = some (.int .i64 f.fr) := HF4.out.cell 3
          have F4 : w4.cell? ⟨fb, 4, none⟩ = some (.int .i64 f.to) := HF4.out.cell 4
          have F5 : w4.cell? ⟨fb, 5, none⟩ = some (.string f.co) := HF4.out.cell 5
          have F6 : w4.cell? ⟨fb, 6, none⟩ = some (.int .i64 f.nu) := HF4.out.cell 6
          have F7 : w4.cell? ⟨fb, 7, none⟩ = some (.string f.tx) := HF4.out.cell 7
          go_wp2_with fail
          refine HADD.out.mono ?_
          rintro e w5 ⟨⟨A2, c2, rfl, hc2, hs2⟩, hb5⟩
          clear V4 F0 F1 F2 F3 F4 F5 F6 F7 HADD
          have hk5 : Bk sb 26 #[.slice A1 T.length c1] w5 := (hb5.block sb HK4.out.lt).trans HK4.out
          have V5 : w5.cell? ⟨sb, 0, none⟩ = some (.slice A1 T.length c1) := Bk.cell hk5 0
          have D5 : w5.frozen? ⟨sb, 0, none⟩ = false := Bk.frozen hk5 0
          obtain ⟨w6, hw6⟩ : ∃ x, w5.setCell ⟨sb, 0, none⟩ (.slice A2 N.length c2) = x := ⟨_, rfl⟩
          have HV6 : Hid (StV sb N w6) := Lib.hid ⟨A2, c2, by rw [← hw6]; exact hk5.set_ 0 _, hc2, by rw [← hw6]; exact hs2.keepRe hk5 _⟩
          have HB6 : Hid (Below w.heap.size w w6) := Lib.hid (by rw [← hw6]; exact (bTrans HB4.out hb5).setCell (p := ⟨sb, 0, none⟩) HSW.out _)
          have HM6 : Hid (SlF w6 M T) := Lib.hid (by rw [← hw6]; exact SlF.keepRe (HM4.out.below hb5) hk5 _)
          have HO6 : Hid (StV tb [] w6) := Lib.hid (StV.other8 (HO4.out.below hb5) hk5 HNE.out hw6)
          have HF6 : Hid (Bk fb 31 (FA f) w6) := Lib.hid (by rw [← hw6]; exact (heap_setCell_other w5 ⟨sb, 0, none⟩ fb _ HFS.out).trans ((hb5.block fb HF4.out.lt).trans HF4.out))
          have HE6 := Lib.hid hw6
          have HAD9 := Lib.hid (r9_Add T M cm f w6 HLN HMC.out HM6.out HFF.out)
          unfold addR9 at HAD9
          rw [HN.out] at HAD9
          unfold FA at HAD9
          clear hk5 hw6 hc2 hs2 hb5
          go_upto_region 9 with fail
          rw [HE6.out]
          clear V5 D5 HE6
          have F0 : w6.cell? ⟨fb, 0, none⟩ = some (.int .u32 f.id) := HF6.out.cell 0
          have F1 : w6.cell? ⟨fb, 1, none⟩ = some (.int .u32 f.pe) := HF6.out.cell 1
          have F2 : w6.cell? ⟨fb, 2, none⟩ = some (.int .i64 f.ki) := HF6.out.cell 2
          have F3 : w6.cell? ⟨fb, 3, none⟩ = some (.int .i64 f.fr) := HF6.out.cell 3
          have F4 : w6.cell? ⟨fb, 4, none⟩ = some (.int .i64 f.to) := HF6.out.cell 4
          have F5 : w6.cell? ⟨fb, 5, none⟩ = some (.string f.co) := HF6.out.cell 5
          have F6 : w6.cell? ⟨fb, 6, none⟩ = some (.int .i64 f.nu) := HF6.out.cell 6
          have F7 : w6.cell? ⟨fb, 7, none⟩ = some (.string f.tx) := HF6.out.cell 7
          go_wp2_with fail
          refine HAD9.out.mono ?_
          rintro e w7 ⟨⟨M2, d2, rfl, hd2, hm2⟩, hb7⟩
          have HM7 : Hid (N.length ≤ d2 ∧ SlF w7 M2 N) := Lib.hid ⟨hd2, hm2⟩
          have HV7 : Hid (StV sb N w7) := Lib.hid (HV6.out.below hb7)
          have HO7 : Hid (StV tb [] w7) := Lib.hid (HO6.out.below hb7)
          have HB7 : Hid (Below w.heap.size w w7) := Lib.hid (bTrans HB6.out hb7)
          clear F0 F1 F2 F3 F4 F5 F6 F7 HAD9 hd2 hm2 hb7
          go_wp2
          exact ⟨⟨k + 1, d2, M2, by omega, by go_num, by rw [HNX2.out], Lib.hid (by rw [HNX2.out]; exact HM7.out), Lib.hid (by rw [HNX2.out]; exact HV7.out), HO7, HB7⟩, by simp [intOf]; omega⟩
        · obtain rfl : k = l.length := by omega
          have HT0 : Hid (tellL [] (l.take l.length) = tellL [] l) := Lib.hid (by rw [List.take_length])
          obtain ⟨T0, hT0⟩ : ∃ T, tellL [] l = T := ⟨_, rfl⟩
          have HLT : T0.length ≤ 30 := by rw [← hT0]; have := tellL_len l []; rw [List.length_nil] at this; omega
          have HFT : Hid (∀ f ∈ T0, Fit f) := Lib.hid (by rw [← hT0]; exact tellL_all (fun _ h => absurd h (by simp)) FIT1.out)
          have HV1 : Hid (StV sb T0 wr) := Lib.hid (by rw [← hT0, ← HT0.out]; exact HV.out)
          have HM1 : Hid (SlF wr M T0) := Lib.hid (by rw [← hT0, ← HT0.out]; exact HM.out.2)
          have HMC1 : Hid (T0.length ≤ cm) := Lib.hid (by rw [← hT0, ← HT0.out]; exact HM.out.1)
          rw [HT0.out, hT0]
          obtain ⟨M1, rfl⟩ : ∃ x, x = M := ⟨_, rfl⟩
          obtain ⟨d1, rfl⟩ : ∃ x, x = cm := ⟨_, rfl⟩
          clear HT0 HM HV hT0 hlt hk
          go_wp2
          go_loopw [12, 47] (fun mv iv wr => ∃ (k cm : Nat) (M : Option Addr), k ≤ m.length ∧ iv = .int .i64 k ∧ mv = .slice M (tellL [] (m.take k)).length cm ∧ Hid ((tellL [] (m.take k)).length ≤ cm ∧ SlF wr M (tellL [] (m.take k))) ∧ Hid (StV tb (tellL [] (m.take k)) wr) ∧ Hid (StV sb T0 wr) ∧ Hid (Below w.heap.size w wr) ∧ Hid (SlF wr M1 T0)) (fun _ iv _ => m.length - (intOf iv).toNat)
          case atStart => exact ⟨0, 0, none, Nat.zero_le _, rfl, rfl, Lib.hid ⟨Nat.le_refl _, fun h => absurd rfl h⟩, HO, HV1, HB, HM1⟩
          case round =>
            obtain ⟨k, cm, M, hk, rfl, rfl, HM, HV, HO, HB, Ka⟩ := hrel
            by_cases hlt : k < m.length
            · obtain ⟨b, off, rfl, hbl, hat⟩ := SlF.open_ HMB.out (by intro h; simp [h] at hlt)
              obtain ⟨f, hx⟩ : ∃ x, m[k]? = some x := ⟨_, List.getElem?_eq_getElem hlt⟩
              obtain ⟨C0, C1, C2, C3, C4, C5, C6, C7⟩ := (hat k f hx).below HB.out
              have HNX := Lib.hid (tellL_take (L := []) hx)
              have HFF := Lib.hid (FIT2.out f (List.mem_of_getElem? hx))
              have HLN : (tellL [] (m.take k)).length ≤ 4096 := by have := tellL_len (m.take k) []; rw [List.length_take] at this; (try simp only [List.length_nil] at this); omega
              obtain ⟨T, hTT⟩ : ∃ T, tellL [] (m.take k) = T := ⟨_, rfl⟩
              rw [hTT] at HNX HLN HM
              obtain ⟨A1, c1, hv1, hv2, hv3⟩ : StV tb T wr := by rw [← hTT]; exact HV.out
              obtain ⟨N, en, hN⟩ : ∃ N en, addL T f = (N, en) := ⟨_, _, rfl⟩
              have HNX2 : Hid (tellL [] (m.take (k + 1)) = N) := Lib.hid (by rw [HNX.out, hN])
              obtain ⟨fb, hfb⟩ : ∃ x, wr.heap.size = x := ⟨_, rfl⟩
              obtain ⟨w4, hw4⟩ : ∃ x, wr.alloc (.cells (FA f) 31) = x := ⟨_, rfl⟩
              have HF4 : Hid (Bk fb 31 (FA f) w4) := Lib.hid (by rw [← hw4, ← hfb]; exact Bk.new _ _ _)
              have hbr4 : Below wr.heap.size wr w4 := by rw [← hw4]; exact bAlloc _ _
              have HB4 : Hid (Below w.heap.size w w4) := Lib.hid (bTrans HB.out hbr4)
              have HS4 : Hid (SlF w4 A1 T) := Lib.hid (hv3.below hbr4)
              have HM4 : Hid (SlF w4 M T) := Lib.hid (HM.out.2.below hbr4)
              have HMC : Hid (T.length ≤ cm) := Lib.hid HM.out.1
              have HK4 : Hid (Bk tb 26 #[.slice A1 T.length c1] w4) := Lib.hid ((hbr4.block tb hv1.lt).trans hv1)
              have HO4 : Hid (StV sb T0 w4) := Lib.hid (HO.out.below hbr4)
              have HFS : Hid (fb ≠ tb) := Lib.hid (by have := hv1.lt; omega)
              have La : Hid (SlF w4 M1 T0) := Lib.hid (Ka.out.below hbr4)
              have HADD := Lib.hid (st_Add T A1 c1 f w4 HLN hv2 HS4.out HFF.out (HT.out.below HB4.out))
              unfold addR at HADD
              rw [hN] at HADD
              unfold FA at hw4 HADD
              have HE4 := Lib.hid (And.intro hfb hw4)
              rw [hTT]
              have HN := Lib.hid hN
              clear hat hx hTT hv1 hv2 hv3 hfb hw4 hbr4 HM HV HNX hN HO
              go_upto_region 14 with fail
              rw [HE4.out.1, HE4.out.2]
              clear C0 C1 C2 C3 C4 C5 C6 C7 HE4
              have V4 : w4.cell? ⟨tb, 0, none⟩ = some (.slice A1 T.length c1) := HK4.out.cell 0
              have F0 : w4.cell? ⟨fb, 0, none⟩ = some (.int .u32 f.id) := HF4.out.cell 0
              have F1 : w4.cell? ⟨fb, 1, none⟩ = some (.int .u32 f.pe) := HF4.out.cell 1
              have F2 : w4.cell? ⟨fb, 2, none⟩ = some (.int .i64 f.ki) := HF4.out.cell 2
              have F3 : w4.cell? ⟨fb, 3, none⟩ = some (.int .i64 f.fr) := HF4.out.cell 3
              have F4 : w4.cell? ⟨fb, 4, none⟩ = some (.int .i64 f.to) := HF4.out.cell 4
              have F5 : w4.cell? ⟨fb, 5, none⟩ = some (.string f.co) := HF4.out.cell 5
              have F6 : w4.cell? ⟨fb, 6, none⟩ = some (.int .i64 f.nu) := HF4.out.cell 6
              have F7 : w4.cell? ⟨fb, 7, none⟩ = some (.string f.tx) := HF4.out.cell 7
              go_wp2_with fail
              refine HADD.out.mono ?_
              rintro e w5 ⟨⟨A2, c2, rfl, hc2, hs2⟩, hb5⟩
              clear V4 F0 F1 F2 F3 F4 F5 F6 F7 HADD
              have hk5 : Bk tb 26 #[.slice A1 T.length c1] w5 := (hb5.block tb HK4.out.lt).trans HK4.out
              have V5 : w5.cell? ⟨tb, 0, none⟩ = some (.slice A1 T.length c1) := Bk.cell hk5 0
              have D5 : w5.frozen? ⟨tb, 0, none⟩ = false := Bk.frozen hk5 0
              obtain ⟨w6, hw6⟩ : ∃ x, w5.setCell ⟨tb, 0, none⟩ (.slice A2 N.length c2) = x := ⟨_, rfl⟩
              have HV6 : Hid (StV tb N w6) := Lib.hid ⟨A2, c2, by rw [← hw6]; exact hk5.set_ 0 _, hc2, by rw [← hw6]; exact hs2.keepRe hk5 _⟩
              have HB6 : Hid (Below w.heap.size w w6) := Lib.hid (by rw [← hw6]; exact (bTrans HB4.out hb5).setCell (p := ⟨tb, 0, none⟩) HTW.out _)
              have HM6 : Hid (SlF w6 M T) := Lib.hid (by rw [← hw6]; exact SlF.keepRe (HM4.out.below hb5) hk5 _)
              have HO6 : Hid (StV sb T0 w6) := Lib.hid (StV.other8 (HO4.out.below hb5) hk5 HNE2.out hw6)
              have HF6 : Hid (Bk fb 31 (FA f) w6) := Lib.hid (by rw [← hw6]; exact (heap_setCell_other w5 ⟨tb, 0, none⟩ fb _ HFS.out).trans ((hb5.block fb HF4.out.lt).trans HF4.out))
              have Ma : Hid (SlF w6 M1 T0) := Lib.hid (by rw [← hw6]; exact SlF.keepRe (La.out.below hb5) hk5 _)
              have HE6 := Lib.hid hw6
              have HAD9 := Lib.hid (r9_Add T M cm f w6 HLN HMC.out HM6.out HFF.out)
              unfold addR9 at HAD9
              rw [HN.out] at HAD9
              unfold FA at HAD9
              clear hk5 hw6 hc2 hs2 hb5
              go_upto_region 15 with fail
              rw [HE6.out]
              clear V5 D5 HE6
              have F0 : w6.cell? ⟨fb, 0, none⟩ = some (.int .u32 f.id) := HF6.out.cell 0
              have F1 : w6.cell? ⟨fb, 1, none⟩ = some (.int .u32 f.pe) := HF6.out.cell 1
              have F2 : w6.cell? ⟨fb, 2, none⟩ = some (.int .i64 f.ki) := HF6.out.cell 2
              have F3 : w6.cell? ⟨fb, 3, none⟩ = some (.int .i64 f.fr) := HF6.out.cell 3
              have F4 : w6.cell? ⟨fb, 4, none⟩ = some (.int .i64 f.to) := HF6.out.cell 4
              have F5 : w6.cell? ⟨fb, 5, none⟩ = some (.string f.co) := HF6.out.cell 5
              have F6 : w6.cell? ⟨fb, 6, none⟩ = some (.int .i64 f.nu) := HF6.out.cell 6
              have F7 : w6.cell? ⟨fb, 7, none⟩ = some (.string f.tx) := HF6.out.cell 7
              go_wp2_with fail
              refine HAD9.out.mono ?_
              rintro e w7 ⟨⟨M2, d2, rfl, hd2, hm2⟩, hb7⟩
              have HM7 : Hid (N.length ≤ d2 ∧ SlF w7 M2 N) := Lib.hid ⟨hd2, hm2⟩
              have HV7 : Hid (StV tb N w7) := Lib.hid (HV6.out.below hb7)
              have HO7 : Hid (StV sb T0 w7) := Lib.hid (HO6.out.below hb7)
              have HB7 : Hid (Below w.heap.size w w7) := Lib.hid (bTrans HB6.out hb7)
              have Na : Hid (SlF w7 M1 T0) := Lib.hid (Ma.out.below hb7)
              clear F0 F1 F2 F3 F4 F5 F6 F7 HAD9 hd2 hm2 hb7
              go_wp2
              exact ⟨⟨k + 1, d2, M2, by omega, by go_num, by rw [HNX2.out], Lib.hid (by rw [HNX2.out]; exact HM7.out), Lib.hid (by rw [HNX2.out]; exact HV7.out), HO7, HB7, Na⟩, by simp [intOf]; omega⟩
            · obtain rfl : k = m.length := by omega
              have HT0 : Hid (tellL [] (m.take m.length) = tellL [] m) := Lib.hid (by rw [List.take_length])
              obtain ⟨U0, hU0⟩ : ∃ U, tellL [] m = U := ⟨_, rfl⟩
              have hum := HM.out
              have huv := HV.out
              rw [HT0.out, hU0] at hum huv
              rw [HT0.out, hU0]
              have HLU : U0.length ≤ 30 := by rw [← hU0]; have := tellL_len m []; rw [List.length_nil] at this; omega
              have HFU : Hid (∀ f ∈ U0, Fit f) := Lib.hid (by rw [← hU0]; exact tellL_all (fun _ h => absurd h (by simp)) FIT2.out)
              obtain ⟨A2, c2, ht1, ht2, ht3⟩ := huv
              obtain ⟨A1, c1, hs1, hs2, hs3⟩ := HO.out
              go_upto_region 17 with fail
              have hbase := HB.out
              have HBW := Lib.hid hbase
              have HSA := Lib.hid hs3
              have HSB := Lib.hid ht3
              have HMA := Lib.hid Ka.out
              have HMB2 : Hid (SlF wr M U0) := Lib.hid hum.2
              have hdm : U0.length ≤ cm := hum.1
              have HLD1 : Hid (∀ W, Below wr.heap.size wr W → ∃ v, (Instr.loadAt 26 (.pointer (some ⟨sb, 0, none⟩))).run Tryz.prog W = .ok v W ∧ v = .agg #[.slice A1 T0.length c1]) := Lib.hid fun W hW => by
                have h : W.cell? ⟨sb, 0, none⟩ = some (.slice A1 T0.length c1) := bCell hW (hs1.cell 0)
                refine ⟨_, ?_, rfl⟩
                go_simp
              have HLD2 : Hid (∀ W, Below wr.heap.size wr W → ∃ v, (Instr.loadAt 26 (.pointer (some ⟨tb, 0, none⟩))).run Tryz.prog W = .ok v W ∧ v = .agg #[.slice A2 U0.length c2]) := Lib.hid fun W hW => by
                have h : W.cell? ⟨tb, 0, none⟩ = some (.slice A2 U0.length c2) := bCell hW (ht1.cell 0)
                refine ⟨_, ?_, rfl⟩
                go_simp
              have HAWK : Hid (∀ W, Below wr.heap.size wr W → Calls Tryz.prog 12 #[] W fun e w' => ∃ v, e = .returned v ∧ Below W.heap.size W w' ∧ v = .bool true) := Lib.hid fun W hW => (HAW.out W (bTrans HBW.out hW)).mono fun e w' h => ⟨_, h.1, h.2, rfl⟩
              have HA1 : Hid (∀ v1 v2 W, Below wr.heap.size wr W → v1 = .agg #[.slice A1 T0.length c1] → v2 = .int .i64 na → Calls Tryz.prog 17 #[v1, v2] W fun e w' => ∃ v, e = .returned v ∧ Below W.heap.size W w' ∧ v = .agg #[.slice A1 (atN T0 na) (atN T0 na)]) := Lib.hid fun v1 v2 W hW h1 h2 => by
                subst h1; subst h2
                exact (st_At T0 A1 c1 na W (by omega) hs2).mono fun e w' h => ⟨_, h.1, h.2, rfl⟩
              have HA2 : Hid (∀ v1 v2 W, Below wr.heap.size wr W → v1 = .agg #[.slice A1 T0.length c1] → v2 = .int .i64 nb → Calls Tryz.prog 17 #[v1, v2] W fun e w' => ∃ v, e = .returned v ∧ Below W.heap.size W w' ∧ v = .agg #[.slice A1 (atN T0 nb) (atN T0 nb)]) := Lib.hid fun v1 v2 W hW h1 h2 => by
                subst h1; subst h2
                exact (st_At T0 A1 c1 nb W (by omega) hs2).mono fun e w' h => ⟨_, h.1, h.2, rfl⟩
              have HA3 : Hid (∀ v1 v2 W, Below wr.heap.size wr W → v1 = .agg #[.slice A2 U0.length c2] → v2 = .int .i64 nb → Calls Tryz.prog 17 #[v1, v2] W fun e w' => ∃ v, e = .returned v ∧ Below W.heap.size W w' ∧ v = .agg #[.slice A2 (atN U0 nb) (atN U0 nb)]) := Lib.hid fun v1 v2 W hW h1 h2 => by
                subst h1; subst h2
                exact (st_At U0 A2 c2 nb W (by omega) ht2).mono fun e w' h => ⟨_, h.1, h.2, rfl⟩
              have HR1 : Hid (∀ v1 v2 W, Below wr.heap.size wr W → v1 = .slice M1 T0.length d1 → v2 = .int .i64 na → Calls Tryz.prog 19 #[v1, v2] W fun e w' => ∃ v, e = .returned v ∧ Below W.heap.size W w' ∧ v = .slice M1 (atN T0 na) d1) := Lib.hid fun v1 v2 W hW h1 h2 => by
                subst h1; subst h2
                exact (r9_At T0 M1 d1 na W (by omega) HMC1.out).mono fun e w' h => ⟨_, h.1, by rw [h.2]; exact Below.refl _ _, rfl⟩
              have HR2 : Hid (∀ v1 v2 W, Below wr.heap.size wr W → v1 = .slice M1 T0.length d1 → v2 = .int .i64 nb → Calls Tryz.prog 19 #[v1, v2] W fun e w' => ∃ v, e = .returned v ∧ Below W.heap.size W w' ∧ v = .slice M1 (atN T0 nb) d1) := Lib.hid fun v1 v2 W hW h1 h2 => by
                subst h1; subst h2
                exact (r9_At T0 M1 d1 nb W (by omega) HMC1.out).mono fun e w' h => ⟨_, h.1, by rw [h.2]; exact Below.refl _ _, rfl⟩
              have HR3 : Hid (∀ v1 v2 W, Below wr.heap.size wr W → v1 = .slice M U0.length cm → v2 = .int .i64 nb → Calls Tryz.prog 19 #[v1, v2] W fun e w' => ∃ v, e = .returned v ∧ Below W.heap.size W w' ∧ v = .slice M (atN U0 nb) cm) := Lib.hid fun v1 v2 W hW h1 h2 => by
                subst h1; subst h2
                exact (r9_At U0 M cm nb W (by omega) hdm).mono fun e w' h => ⟨_, h.1, by rw [h.2]; exact Below.refl _ _, rfl⟩
              have HC1 : Hid (∀ v1 v2 W, Below wr.heap.size wr W → v1 = .agg #[.slice A1 (atN T0 na) (atN T0 na)] → v2 = .agg #[.slice A1 (atN T0 nb) (atN T0 nb)] → Calls Tryz.prog 16 #[v1, v2] W fun e w' => ∃ v, e = .returned v ∧ Below W.heap.size W w' ∧ SlV (changedL (T0.take (atN T0 na)) (T0.take (atN T0 nb))) v w') := Lib.hid fun v1 v2 W hW h1 h2 => by
                subst h1; subst h2
                have h := st_Changed (T0.take (atN T0 na)) (T0.take (atN T0 nb)) A1 A1 (atN T0 na) (atN T0 nb) W (by rw [len_take_atN]; exact atN_le (by omega)) (by rw [len_take_atN]; exact atN_le (by omega)) ((HSA.out.take_ _).below hW) ((HSA.out.take_ _).below hW) (fun f hf => HFT.out f (List.mem_of_mem_take hf)) (fun f hf => HFT.out f (List.mem_of_mem_take hf)) (.inr sortOk)
                rw [len_take_atN, len_take_atN] at h
                refine h.mono ?_
                rintro e w' ⟨⟨C, cp, he, _, hs⟩, hb⟩
                exact ⟨_, he, hb, C, cp, rfl, hs⟩
              have HC2 : Hid (∀ v1 v2 W, Below wr.heap.size wr W → v1 = .agg #[.slice A1 (atN T0 na) (atN T0 na)] → v2 = .agg #[.slice A2 (atN U0 nb) (atN U0 nb)] → Calls Tryz.prog 16 #[v1, v2] W fun e w' => ∃ v, e = .returned v ∧ Below W.heap.size W w' ∧ SlV (changedL (T0.take (atN T0 na)) (U0.take (atN U0 nb))) v w') := Lib.hid fun v1 v2 W hW h1 h2 => by
                subst h1; subst h2
                have h := st_Changed (T0.take (atN T0 na)) (U0.take (atN U0 nb)) A1 A2 (atN T0 na) (atN U0 nb) W (by rw [len_take_atN]; exact atN_le (by omega)) (by rw [len_take_atN]; exact atN_le (by omega)) ((HSA.out.take_ _).below hW) ((HSB.out.take_ _).below hW) (fun f hf => HFT.out f (List.mem_of_mem_take hf)) (fun f hf => HFU.out f (List.mem_of_mem_take hf)) (.inr sortOk)
                rw [len_take_atN, len_take_atN] at h
                refine h.mono ?_
                rintro e w' ⟨⟨C, cp, he, _, hs⟩, hb⟩
                exact ⟨_, he, hb, C, cp, rfl, hs⟩
              have HD1 : Hid (∀ v1 v2 W, Below wr.heap.size wr W → v1 = .slice M1 (atN T0 na) d1 → v2 = .slice M1 (atN T0 nb) d1 → Calls Tryz.prog 18 #[v1, v2] W fun e w' => ∃ v, e = .returned v ∧ Below W.heap.size W w' ∧ SlV (changedL (T0.take (atN T0 na)) (T0.take (atN T0 nb))) v w') := Lib.hid fun v1 v2 W hW h1 h2 => by
                subst h1; subst h2
                have h := r9_Changed (T0.take (atN T0 na)) (T0.take (atN T0 nb)) M1 M1 d1 d1 W (by rw [len_take_atN]; exact atN_le (by omega)) (by rw [len_take_atN]; exact atN_le (by omega)) ((HMA.out.take_ _).below hW) ((HMA.out.take_ _).below hW)
                rw [changed_eq (T0.take (atN T0 na)) (T0.take (atN T0 nb)) (fun f hf => HFT.out f (List.mem_of_mem_take hf)) (fun f hf => HFT.out f (List.mem_of_mem_take hf)) (by rw [len_take_atN]; exact atN_le (by omega)) (by rw [len_take_atN]; exact atN_le (by omega)), len_take_atN, len_take_atN] at h
                refine h.mono ?_
                rintro e w' ⟨⟨v, he, ho⟩, hb⟩
                obtain ⟨C, cp, rfl, _, hs⟩ := ho.sl
                exact ⟨_, he, hb, C, cp, rfl, hs⟩
              have HD2 : Hid (∀ v1 v2 W, Below wr.heap.size wr W → v1 = .slice M1 (atN T0 na) d1 → v2 = .slice M (atN U0 nb) cm → Calls Tryz.prog 18 #[v1, v2] W fun e w' => ∃ v, e = .returned v ∧ Below W.heap.size W w' ∧ SlV (changedL (T0.take (atN T0 na)) (U0.take (atN U0 nb))) v w') := Lib.hid fun v1 v2 W hW h1 h2 => by
                subst h1; subst h2
                have h := r9_Changed (T0.take (atN T0 na)) (U0.take (atN U0 nb)) M1 M d1 cm W (by rw [len_take_atN]; exact atN_le (by omega)) (by rw [len_take_atN]; exact atN_le (by omega)) ((HMA.out.take_ _).below hW) ((HMB2.out.take_ _).below hW)
                rw [changed_eq (T0.take (atN T0 na)) (U0.take (atN U0 nb)) (fun f hf => HFT.out f (List.mem_of_mem_take hf)) (fun f hf => HFU.out f (List.mem_of_mem_take hf)) (by rw [len_take_atN]; exact atN_le (by omega)) (by rw [len_take_atN]; exact atN_le (by omega)), len_take_atN, len_take_atN] at h
                refine h.mono ?_
                rintro e w' ⟨⟨v, he, ho⟩, hb⟩
                obtain ⟨C, cp, rfl, _, hs⟩ := ho.sl
                exact ⟨_, he, hb, C, cp, rfl, hs⟩
              have HS1 : Hid (∀ v1 v2 W, Below wr.heap.size wr W → SlV (changedL (T0.take (atN T0 na)) (T0.take (atN T0 nb))) v1 W → SlV (changedL (T0.take (atN T0 na)) (T0.take (atN T0 nb))) v2 W → Calls Tryz.prog 15 #[v1, v2] W fun e w' => ∃ v, e = .returned v ∧ Below W.heap.size W w' ∧ v = .bool true) := Lib.hid fun v1 v2 W hW h1 h2 => by
                obtain ⟨C, cp, rfl, hC⟩ := h1
                obtain ⟨D, dp, rfl, hD⟩ := h2
                exact (la_same (changedL (T0.take (atN T0 na)) (T0.take (atN T0 nb))) C D cp dp W (chg_len (by rw [len_take_atN]; exact atN_le (by omega)) (by rw [len_take_atN]; exact atN_le (by omega))) hC hD).mono fun e w' h => ⟨_, h.1, h.2, rfl⟩
              have HS2 : Hid (∀ v1 v2 W, Below wr.heap.size wr W → SlV (changedL (T0.take (atN T0 na)) (U0.take (atN U0 nb))) v1 W → SlV (changedL (T0.take (atN T0 na)) (U0.take (atN U0 nb))) v2 W → Calls Tryz.prog 15 #[v1, v2] W fun e w' => ∃ v, e = .returned v ∧ Below W.heap.size W w' ∧ v = .bool true) := Lib.hid fun v1 v2 W hW h1 h2 => by
                obtain ⟨C, cp, rfl, hC⟩ := h1
                obtain ⟨D, dp, rfl, hD⟩ := h2
                exact (la_same (changedL (T0.take (atN T0 na)) (U0.take (atN U0 nb))) C D cp dp W (chg_len (by rw [len_take_atN]; exact atN_le (by omega)) (by rw [len_take_atN]; exact atN_le (by omega))) hC hD).mono fun e w' h => ⟨_, h.1, h.2, rfl⟩
              refine wp_region_spec (SPc ⟨na, nb, sb, tb, A1, A2, M1, M, c1, c2, d1, cm, T0.length, U0.length, atN T0 na, atN T0 nb, atN U0 nb, changedL (T0.take (atN T0 na)) (T0.take (atN T0 nb)), changedL (T0.take (atN T0 na)) (U0.take (atN U0 nb))⟩) (by kernel_rfl) (SPc.st _) (by kernel_rfl) (by rfl) ?_ (ops_all ?_) ?_
              · intro t hnd
                by_cases h : t ∈ [2, 3, 9, 10, 11, 12, 66, 67, 68, 69, 70, 71, 72, 73, 74, 75, 76, 77, 78, 79, 80, 81, 82, 83, 84, 85, 86, 87, 88, 89, 90, 91, 92, 93, 94, 95, 96, 97, 98, 64, 65, 8]
                · simp only [List.mem_cons, List.not_mem_nil, or_false] at h
                  rcases h with rfl | rfl | rfl | rfl | rfl | rfl | h
                  · exact rfl
                  · exact rfl
                  · exact rfl
                  · exact rfl
                  · exact rfl
                  · exact rfl
                  · exfalso
                    rcases h with rfl | rfl | rfl | rfl | rfl | rfl | rfl | rfl | rfl | rfl | rfl | rfl | rfl | rfl | rfl | rfl | rfl | rfl | rfl | rfl | rfl | rfl | rfl | rfl | rfl | rfl | rfl | rfl | rfl | rfl | rfl | rfl | rfl | rfl | rfl | rfl
                    all_goals exact Bool.noConfusion (show false = true from hnd)
                · exact SPc.free _ _ _ _ h
              · refine List.forall_mem_cons.2 ⟨by exact opOk_call0 rfl rfl (.inl rfl) (fun args W => by go_simp) (fun W hW => HAWK.out W hW), ?_⟩
                refine List.forall_mem_cons.2 ⟨by exact opOk_move rfl rfl (.inl rfl) (by kernel_rfl) (fun _ _ h => h), ?_⟩
                refine List.forall_mem_cons.2 ⟨by exact opOk_load rfl rfl (.inr ⟨1, 65, rfl, rfl, by kernel_rfl, fun _ _ h => h⟩) (by kernel_rfl) (fun _ _ h => h) (fun W hW => HLD1.out W hW), ?_⟩
                refine List.forall_mem_cons.2 ⟨by exact opOk_move rfl rfl (.inr ⟨1, 65, rfl, rfl, by kernel_rfl, fun _ _ h => h⟩) (by kernel_rfl) (fun _ _ h => h), ?_⟩
                refine List.forall_mem_cons.2 ⟨by exact opOk_call2 rfl rfl (.inr ⟨1, 65, rfl, rfl, by kernel_rfl, fun _ _ h => h⟩) (by kernel_rfl) (by kernel_rfl) (fun args W => by go_simp) (fun v1 v2 W hW h1 h2 => HA1.out v1 v2 W hW h1 h2), ?_⟩
                refine List.forall_mem_cons.2 ⟨by exact opOk_load rfl rfl (.inr ⟨1, 65, rfl, rfl, by kernel_rfl, fun _ _ h => h⟩) (by kernel_rfl) (fun _ _ h => h) (fun W hW => HLD1.out W hW), ?_⟩
                refine List.forall_mem_cons.2 ⟨by exact opOk_move rfl rfl (.inr ⟨1, 65, rfl, rfl, by kernel_rfl, fun _ _ h => h⟩) (by kernel_rfl) (fun _ _ h => h), ?_⟩
                refine List.forall_mem_cons.2 ⟨by exact opOk_call2 rfl rfl (.inr ⟨1, 65, rfl, rfl, by kernel_rfl, fun _ _ h => h⟩) (by kernel_rfl) (by kernel_rfl) (fun args W => by go_simp) (fun v1 v2 W hW h1 h2 => HA2.out v1 v2 W hW h1 h2), ?_⟩
                refine List.forall_mem_cons.2 ⟨by exact opOk_call2 rfl rfl (.inr ⟨1, 65, rfl, rfl, by kernel_rfl, fun _ _ h => h⟩) (by kernel_rfl) (by kernel_rfl) (fun args W => by go_simp) (fun v1 v2 W hW h1 h2 => HC1.out v1 v2 W hW h1 h2), ?_⟩
                refine List.forall_mem_cons.2 ⟨by exact opOk_move rfl rfl (.inr ⟨1, 65, rfl, rfl, by kernel_rfl, fun _ _ h => h⟩) (by kernel_rfl) (fun _ _ h => h), ?_⟩
                refine List.forall_mem_cons.2 ⟨by exact opOk_move rfl rfl (.inr ⟨1, 65, rfl, rfl, by kernel_rfl, fun _ _ h => h⟩) (by kernel_rfl) (fun _ _ h => h), ?_⟩
                refine List.forall_mem_cons.2 ⟨by exact opOk_call2 rfl rfl (.inr ⟨1, 65, rfl, rfl, by kernel_rfl, fun _ _ h => h⟩) (by kernel_rfl) (by kernel_rfl) (fun args W => by go_simp) (fun v1 v2 W hW h1 h2 => HR1.out v1 v2 W hW h1 h2), ?_⟩
                refine List.forall_mem_cons.2 ⟨by exact opOk_move rfl rfl (.inr ⟨1, 65, rfl, rfl, by kernel_rfl, fun _ _ h => h⟩) (by kernel_rfl) (fun _ _ h => h), ?_⟩
                refine List.forall_mem_cons.2 ⟨by exact opOk_move rfl rfl (.inr ⟨1, 65, rfl, rfl, by kernel_rfl, fun _ _ h => h⟩) (by kernel_rfl) (fun _ _ h => h), ?_⟩
                refine List.forall_mem_cons.2 ⟨by exact opOk_call2 rfl rfl (.inr ⟨1, 65, rfl, rfl, by kernel_rfl, fun _ _ h => h⟩) (by kernel_rfl) (by kernel_rfl) (fun args W => by go_simp) (fun v1 v2 W hW h1 h2 => HR2.out v1 v2 W hW h1 h2), ?_⟩
                refine List.forall_mem_cons.2 ⟨by exact opOk_call2 rfl rfl (.inr ⟨1, 65, rfl, rfl, by kernel_rfl, fun _ _ h => h⟩) (by kernel_rfl) (by kernel_rfl) (fun args W => by go_simp) (fun v1 v2 W hW h1 h2 => HD1.out v1 v2 W hW h1 h2), ?_⟩
                refine List.forall_mem_cons.2 ⟨by exact opOk_call2 rfl rfl (.inr ⟨1, 65, rfl, rfl, by kernel_rfl, fun _ _ h => h⟩) (by kernel_rfl) (by kernel_rfl) (fun args W => by go_simp) (fun v1 v2 W hW h1 h2 => HS1.out v1 v2 W hW h1 h2), ?_⟩
                refine List.forall_mem_cons.2 ⟨by exact opOk_pick rfl rfl (.inl rfl) (by kernel_rfl) (by kernel_rfl) (fun _ _ h => h) (fun _ _ h => h), ?_⟩
                refine List.forall_mem_cons.2 ⟨by exact opOk_move rfl rfl (.inl rfl) (by kernel_rfl) (fun _ _ h => h), ?_⟩
                refine List.forall_mem_cons.2 ⟨by exact opOk_load rfl rfl (.inr ⟨18, 82, rfl, rfl, by kernel_rfl, fun _ _ h => h⟩) (by kernel_rfl) (fun _ _ h => h) (fun W hW => HLD1.out W hW), ?_⟩
                refine List.forall_mem_cons.2 ⟨by exact opOk_move rfl rfl (.inr ⟨18, 82, rfl, rfl, by kernel_rfl, fun _ _ h => h⟩) (by kernel_rfl) (fun _ _ h => h), ?_⟩
                refine List.forall_mem_cons.2 ⟨by exact opOk_call2 rfl rfl (.inr ⟨18, 82, rfl, rfl, by kernel_rfl, fun _ _ h => h⟩) (by kernel_rfl) (by kernel_rfl) (fun args W => by go_simp) (fun v1 v2 W hW h1 h2 => HA1.out v1 v2 W hW h1 h2), ?_⟩
                refine List.forall_mem_cons.2 ⟨by exact opOk_load rfl rfl (.inr ⟨18, 82, rfl, rfl, by kernel_rfl, fun _ _ h => h⟩) (by kernel_rfl) (fun _ _ h => h) (fun W hW => HLD2.out W hW), ?_⟩
                refine List.forall_mem_cons.2 ⟨by exact opOk_move rfl rfl (.inr ⟨18, 82, rfl, rfl, by kernel_rfl, fun _ _ h => h⟩) (by kernel_rfl) (fun _ _ h => h), ?_⟩
                refine List.forall_mem_cons.2 ⟨by exact opOk_call2 rfl rfl (.inr ⟨18, 82, rfl, rfl, by kernel_rfl, fun _ _ h => h⟩) (by kernel_rfl) (by kernel_rfl) (fun args W => by go_simp) (fun v1 v2 W hW h1 h2 => HA3.out v1 v2 W hW h1 h2), ?_⟩
                refine List.forall_mem_cons.2 ⟨by exact opOk_call2 rfl rfl (.inr ⟨18, 82, rfl, rfl, by kernel_rfl, fun _ _ h => h⟩) (by kernel_rfl) (by kernel_rfl) (fun args W => by go_simp) (fun v1 v2 W hW h1 h2 => HC2.out v1 v2 W hW h1 h2), ?_⟩
                refine List.forall_mem_cons.2 ⟨by exact opOk_move rfl rfl (.inr ⟨18, 82, rfl, rfl, by kernel_rfl, fun _ _ h => h⟩) (by kernel_rfl) (fun _ _ h => h), ?_⟩
                refine List.forall_mem_cons.2 ⟨by exact opOk_move rfl rfl (.inr ⟨18, 82, rfl, rfl, by kernel_rfl, fun _ _ h => h⟩) (by kernel_rfl) (fun _ _ h => h), ?_⟩
                refine List.forall_mem_cons.2 ⟨by exact opOk_call2 rfl rfl (.inr ⟨18, 82, rfl, rfl, by kernel_rfl, fun _ _ h => h⟩) (by kernel_rfl) (by kernel_rfl) (fun args W => by go_simp) (fun v1 v2 W hW h1 h2 => HR1.out v1 v2 W hW h1 h2), ?_⟩
                refine List.forall_mem_cons.2 ⟨by exact opOk_move rfl rfl (.inr ⟨18, 82, rfl, rfl, by kernel_rfl, fun _ _ h => h⟩) (by kernel_rfl) (fun _ _ h => h), ?_⟩
                refine List.forall_mem_cons.2 ⟨by exact opOk_move rfl rfl (.inr ⟨18, 82, rfl, rfl, by kernel_rfl, fun _ _ h => h⟩) (by kernel_rfl) (fun _ _ h => h), ?_⟩
                refine List.forall_mem_cons.2 ⟨by exact opOk_call2 rfl rfl (.inr ⟨18, 82, rfl, rfl, by kernel_rfl, fun _ _ h => h⟩) (by kernel_rfl) (by kernel_rfl) (fun args W => by go_simp) (fun v1 v2 W hW h1 h2 => HR3.out v1 v2 W hW h1 h2), ?_⟩
                refine List.forall_mem_cons.2 ⟨by exact opOk_call2 rfl rfl (.inr ⟨18, 82, rfl, rfl, by kernel_rfl, fun _ _ h => h⟩) (by kernel_rfl) (by kernel_rfl) (fun args W => by go_simp) (fun v1 v2 W hW h1 h2 => HD2.out v1 v2 W hW h1 h2), ?_⟩
                refine List.forall_mem_cons.2 ⟨by exact opOk_call2 rfl rfl (.inr ⟨18, 82, rfl, rfl, by kernel_rfl, fun _ _ h => h⟩) (by kernel_rfl) (by kernel_rfl) (fun args W => by go_simp) (fun v1 v2 W hW h1 h2 => HS2.out v1 v2 W hW h1 h2), ?_⟩
                refine List.forall_mem_cons.2 ⟨by exact opOk_pick rfl rfl (.inl rfl) (by kernel_rfl) (by kernel_rfl) (fun _ _ h => h) (fun _ _ h => h), ?_⟩
                refine List.forall_mem_cons.2 ⟨by exact opOk_assign rfl rfl (.inl rfl) (by kernel_rfl) (fun _ _ h => h), ?_⟩
                exact fun _ h => absurd h (by simp)
              · intro a2 w2' hb2' hs2' hd2' hsp
                have h8 : a2.tmps.getD 8 undef = .bool true := hsp 8
                obtain ⟨ta, da⟩ := a2
                have hd3 : da = [] := hd2'
                subst hd3
                have H8 := Lib.hid h8
                have HBF := Lib.hid (bTrans HBW.out hb2')
                clear hsp hs2' hd2' h8 hb2'
                go_wp2
                go_ret
                exact ⟨congrArg Ending.returned H8.out, HBF.out⟩
end Go.Proofs.YtdpejolpjhlibaaGreatDoor
