/- The walk of StoreKeeps. -/
import Derived.Test.YtdpejolpjhlibaaGreatDoorAwk
import Derived.Test.YtdpejolpjhlibaaGreatDoorOp9
namespace Go.Proofs.YtdpejolpjhlibaaGreatDoor
open Go.RowKit Go.Sort

/-- Another store in that variable. -/
theorem StV.put {sb : Nat} {w W : World} {T : Value} {N : List Fa} {A : Option Addr} {cap : Nat} (h : Bk sb 26 #[T] W) (hc : N.length ≤ cap) (hs : SlF W A N) (hW : W.setCell ⟨sb, 0, none⟩ (.slice A N.length cap) = w) : StV sb N w := by
  subst hW
  exact ⟨A, cap, h.set_ 0 _, hc, hs.keepRe h _⟩
/-- A store in another variable. -/
theorem StV.other {sa sb : Nat} {w W : World} {T v : Value} {L : List Fa} (h : StV sa L W) (hb : Bk sb 26 #[T] W) (hne : sa ≠ sb) (hW : W.setCell ⟨sb, 0, none⟩ v = w) : StV sa L w := by
  subst hW
  obtain ⟨A, cap, h1, h2, h3⟩ := h
  exact ⟨A, cap, (heap_setCell_other W ⟨sb, 0, none⟩ sa v hne).trans h1, h2, h3.keepRe hb v⟩
theorem StV.new {L : List Fa} {A : Option Addr} {cap : Nat} (w : World) (hc : L.length ≤ cap) (hs : SlF w A L) : StV w.heap.size L (w.alloc (.cells #[.slice A L.length cap] 26)) :=
  ⟨A, cap, Bk.new _ _ _, hc, hs.below (bAlloc _ _)⟩
theorem StV.lt {sb : Nat} {L : List Fa} {W : World} (h : StV sb L W) : sb < W.heap.size := by
  obtain ⟨A, cap, h1, _⟩ := h
  exact h1.lt

set_option maxHeartbeats 4000000 in
set_option maxRecDepth 100000 in
theorem lw_Keeps (l m : List Fa) (A B : Option Addr) (ca cb : Nat) (w : World) (hl : l.length ≤ 9223372036854775807) (hm : m.length ≤ 9223372036854775807) (fl : ∀ f ∈ l, FitW f) (fm : ∀ f ∈ m, FitW f) (hL : SlF w A l) (hM : SlF w B m) (hT : Tb w) :
    Calls Tryz.prog 6 #[.slice A l.length ca, .slice B m.length cb] w fun e w' => e = .returned (.bool true) ∧ Below w.heap.size w w' := by
  have HT := Lib.hid hT
  have HL := Lib.hid hL
  have HM := Lib.hid hM
  have HSL := Lib.hid (la_short l A ca w hl hL)
  have HSM : Hid (∀ W, Below w.heap.size w W → Calls Tryz.prog 11 #[.slice B m.length cb] W fun e w' => e = .returned (.bool (shortB m)) ∧ Below W.heap.size W w') := Lib.hid fun W hW => la_short m B cb W hm (hM.below hW)
  have HAW : Hid (∀ W, Below w.heap.size w W → Calls Tryz.prog 12 #[] W fun e w' => e = .returned (.bool true) ∧ Below W.heap.size W w') := Lib.hid fun W hW => la_awake W (hT.below hW)
  obtain ⟨x1, h1⟩ : ∃ x, shortB l = x := ⟨_, rfl⟩
  obtain ⟨x2, h2⟩ : ∃ x, shortB m = x := ⟨_, rfl⟩
  rw [h1] at HSL
  rw [h2] at HSM
  have HF1 : Hid (x1 = true → (∀ f ∈ l, Fit f) ∧ l.length ≤ 30) := Lib.hid fun h => short_all (h1.trans h) fl
  have HF2 : Hid (x2 = true → (∀ f ∈ m, Fit f) ∧ m.length ≤ 30) := Lib.hid fun h => short_all (h2.trans h) fm
  clear h1 h2 hT hL hM fl fm
  cases x1 with
  | false =>
    go_enter Tryz.func6, Tryz.ntmps6
    go_wp2_with fail
    refine HSL.out.mono ?_
    rintro e w1 ⟨rfl, hb1⟩
    have HB1 := Lib.hid hb1
    clear hb1
    go_wp2_with fail
    refine (HAW.out _ HB1.out).mono ?_
    rintro e w2 ⟨rfl, hb2⟩
    have HB2 := Lib.hid (bTrans HB1.out hb2)
    clear hb2
    go_wp2
    go_ret
    exact ⟨rfl, HB2.out⟩
  | true =>
    cases x2 with
    | false =>
      go_enter Tryz.func6, Tryz.ntmps6
      go_wp2_with fail
      refine HSL.out.mono ?_
      rintro e w1 ⟨rfl, hb1⟩
      have HB1 := Lib.hid hb1
      clear hb1
      go_wp2_with fail
      refine (HSM.out _ HB1.out).mono ?_
      rintro e w2 ⟨rfl, hb2⟩
      have HB2 := Lib.hid (bTrans HB1.out hb2)
      clear hb2
      go_wp2_with fail
      refine (HAW.out _ HB2.out).mono ?_
      rintro e w3 ⟨rfl, hb3⟩
      have HB3 := Lib.hid (bTrans HB2.out hb3)
      clear hb3
      go_wp2
      go_ret
      exact ⟨rfl, HB3.out⟩
    | true =>
      obtain ⟨fit1, len1⟩ := HF1.out rfl
      obtain ⟨fit2, len2⟩ := HF2.out rfl
      have FIT1 := Lib.hid fit1
      have FIT2 := Lib.hid fit2
      clear fit1 fit2 HF1 HF2
      go_enter Tryz.func6, Tryz.ntmps6
      go_wp2_with fail
      refine HSL.out.mono ?_
      rintro e w1 ⟨rfl, hb1⟩
      have HB1 := Lib.hid hb1
      clear hb1
      go_wp2_with fail
      refine (HSM.out _ HB1.out).mono ?_
      rintro e w2 ⟨rfl, hb2⟩
      have HB2 := Lib.hid (bTrans HB1.out hb2)
      clear hb2
      obtain ⟨sb, hsb⟩ : ∃ x, w2.heap.size = x := ⟨_, rfl⟩
      obtain ⟨w3, hw3⟩ : ∃ x, w2.alloc (.cells #[.slice none 0 0] 26) = x := ⟨_, rfl⟩
      have HV3 : Hid (StV sb [] w3) := Lib.hid (by rw [← hw3, ← hsb]; exact StV.new (L := []) w2 (Nat.le_refl _) (fun h => absurd rfl h))
      have HB3 : Hid (Below w.heap.size w w3) := Lib.hid (by rw [← hw3]; exact bTrans HB2.out (bAlloc _ _))
      have HSW : Hid (w.heap.size ≤ sb) := Lib.hid (by rw [← hsb]; exact HB2.out.size)
      have HE3 := Lib.hid (And.intro hsb hw3)
      clear hsb hw3
      go_upto_region 4 with fail
      rw [HE3.out.1, HE3.out.2]
      go_wp2
      go_loopw [23] (fun iv wr => ∃ k : Nat, k ≤ l.length ∧ iv = .int .i64 k ∧ Hid (StV sb (tellL [] (l.take k)) wr) ∧ Hid (Below w.heap.size w wr)) (fun iv _ => l.length - (intOf iv).toNat)
      case atStart => exact ⟨0, Nat.zero_le _, rfl, HV3, HB3⟩
      case round =>
        obtain ⟨k, hk, rfl, HV, HB⟩ := hrel
        by_cases hlt : k < l.length
        · obtain ⟨b, off, rfl, hbl, hat⟩ := SlF.open_ HL.out (by intro h; simp [h] at hlt)
          obtain ⟨f, hx⟩ : ∃ x, l[k]? = some x := ⟨_, List.getElem?_eq_getElem hlt⟩
          have hat1 := (hat k f hx).below HB.out
          have C0 := hat1.c0
          have C1 := hat1.c1
          have C2 := hat1.c2
          have C3 := hat1.c3
          have C4 := hat1.c4
          have C5 := hat1.c5
          have C6 := hat1.c6
          have C7 := hat1.c7
          have HNX := Lib.hid (tellL_take (L := []) hx)
          have HFF := Lib.hid (FIT1.out f (List.mem_of_getElem? hx))
          have HLN : (tellL [] (l.take k)).length ≤ 4096 := by have := tellL_len (l.take k) []; rw [List.length_take] at this; (try simp only [List.length_nil] at this); omega
          obtain ⟨T, hTT⟩ : ∃ T, tellL [] (l.take k) = T := ⟨_, rfl⟩
          rw [hTT] at HNX HLN
          obtain ⟨A1, c1, hv1, hv2, hv3⟩ : StV sb T wr := by rw [← hTT]; exact HV.out
          obtain ⟨fb, hfb⟩ : ∃ x, wr.heap.size = x := ⟨_, rfl⟩
          obtain ⟨w4, hw4⟩ : ∃ x, wr.alloc (.cells (FA f) 31) = x := ⟨_, rfl⟩
          have HF4 : Hid (Bk fb 31 (FA f) w4) := Lib.hid (by rw [← hw4, ← hfb]; exact Bk.new _ _ _)
          have HB4 : Hid (Below w.heap.size w w4) := Lib.hid (by rw [← hw4]; exact bTrans HB.out (bAlloc wr _))
          have HS4 : Hid (SlF w4 A1 T) := Lib.hid (by rw [← hw4]; exact hv3.below (bAlloc wr _))
          have HK4 : Hid (Bk sb 26 #[.slice A1 T.length c1] w4) := Lib.hid (by rw [← hw4]; exact hv1.grows (.of_alloc _ _))
          have HADD := Lib.hid (st_Add T A1 c1 f w4 HLN hv2 HS4.out HFF.out (HT.out.below HB4.out))
          unfold FA at hw4 HADD
          have HE4 := Lib.hid (And.intro hfb hw4)
          clear hat hat1 hx hTT hv1 hv2 hv3 hfb hw4
          go_upto_region 7 with fail
          rw [HE4.out.1, HE4.out.2]
          clear C0 C1 C2 C3 C4 C5 C6 C7
          have V4 : w4.cell? ⟨sb, 0, none⟩ = some (.slice A1 T.length c1) := HK4.out.cell 0
          have F0 : w4.cell? ⟨fb, 0, none⟩ = some (.int .u32 f.id) := HF4.out.cell 0
          have F1 : w4.cell? ⟨fb, 1, none⟩ = some (.int .u32 f.pe) := HF4.out.cell 1
          have F2 : w4.cell? ⟨fb, 2, none⟩ = some (.int .i64 f.ki) := HF4.out.cell 2
          have F3 : w4.cell? ⟨fb, 3, none⟩ = some (.int .i64 f.fr) := HF4.out.cell 3
          have F4 : w4.cell? ⟨fb, 4, none⟩ = some (.int .i64 f.to) := HF4.out.cell 4
          have F5 : w4.cell? ⟨fb, 5, none⟩ = some (.string f.co) := HF4.out.cell 5
          have F6 : w4.cell? ⟨fb, 6, none⟩ = some (.int .i64 f.nu) := HF4.out.cell 6
          have F7 : w4.cell? ⟨fb, 7, none⟩ = some (.string f.tx) := HF4.out.cell 7
          go_wp2_with fail
          refine HADD.out.mono ?_
          rintro e w5 ⟨⟨A2, c2, rfl, hc2, hs2⟩, hb5⟩
          clear V4 F0 F1 F2 F3 F4 F5 F6 F7
          have hk5 := (hb5.block sb HK4.out.lt).trans HK4.out
          have V5 : w5.cell? ⟨sb, 0, none⟩ = some (.slice A1 T.length c1) := Bk.cell hk5 0
          have D5 : w5.frozen? ⟨sb, 0, none⟩ = false := Bk.frozen hk5 0
          have HV6 : Hid (StV sb (tellL [] (l.take (k + 1))) (w5.setCell ⟨sb, 0, none⟩ (.slice A2 (addL T f).1.length c2))) := Lib.hid (by rw [HNX.out]; exact StV.put hk5 hc2 hs2 rfl)
          have HB6 : Hid (Below w.heap.size w (w5.setCell ⟨sb, 0, none⟩ (.slice A2 (addL T f).1.length c2))) := Lib.hid ((bTrans HB4.out hb5).setCell (p := ⟨sb, 0, none⟩) HSW.out _)
          clear hk5 hc2 hs2 hb5
          go_wp2
          exact ⟨⟨k + 1, by omega, by go_num, HV6, HB6⟩, by simp [intOf]; omega⟩
        · obtain rfl : k = l.length := by omega
          have HT0 : Hid (tellL [] (l.take l.length) = tellL [] l) := Lib.hid (by rw [List.take_length])
          have HLT : (tellL [] l).length ≤ 30 := by have := tellL_len l []; rw [List.length_nil] at this; omega
          have HFT : Hid (∀ f ∈ tellL [] l, Fit f) := Lib.hid (tellL_all (fun _ h => absurd h (by simp)) FIT1.out)
          obtain ⟨T0, hT0⟩ : ∃ T, tellL [] l = T := ⟨_, rfl⟩
          have HV7 : Hid (StV sb T0 wr) := Lib.hid (by rw [← hT0, ← HT0.out]; exact HV.out)
          rw [hT0] at HLT HFT
          obtain ⟨A1, c1, hv1, hv2, hv3⟩ := HV7.out
          have V7 : wr.cell? ⟨sb, 0, none⟩ = some (.slice A1 T0.length c1) := hv1.cell 0
          obtain ⟨tb, htb⟩ : ∃ x, wr.heap.size = x := ⟨_, rfl⟩
          obtain ⟨w8, hw8⟩ : ∃ x, wr.alloc (.cells #[.slice A1 T0.length c1] 26) = x := ⟨_, rfl⟩
          have HS8 : Hid (StV sb T0 w8) := Lib.hid (by rw [← hw8]; exact HV7.out.below (bAlloc _ _))
          have HT8 : Hid (StV tb T0 w8) := Lib.hid (by rw [← hw8, ← htb]; exact StV.new wr hv2 hv3)
          have HB8 : Hid (Below w.heap.size w w8) := Lib.hid (by rw [← hw8]; exact bTrans HB.out (bAlloc _ _))
          have HTW : Hid (w.heap.size ≤ tb) := Lib.hid (by rw [← htb]; exact HB.out.size)
          have HNE : Hid (sb ≠ tb) := Lib.hid (by have := hv1.lt; omega)
          have HE8 := Lib.hid (And.intro htb hw8)
          clear htb hw8 hv1 hv2 hv3 HT0 hT0 HV HV7
          go_upto_region 10 with fail
          rw [HE8.out.1, HE8.out.2]
          clear V7
          go_wp2
          go_loopw [37] (fun iv wr => ∃ k : Nat, k ≤ m.length ∧ iv = .int .i64 k ∧ Hid (StV tb (tellL T0 (m.take k)) wr) ∧ Hid (Below w.heap.size w wr) ∧ Hid (StV sb (T0) wr)) (fun iv _ => m.length - (intOf iv).toNat)
          case atStart => exact ⟨0, Nat.zero_le _, rfl, HT8, HB8, HS8⟩
          case round =>
            obtain ⟨k, hk, rfl, HV, HB, Ks0⟩ := hrel
            by_cases hlt : k < m.length
            · obtain ⟨b, off, rfl, hbl, hat⟩ := SlF.open_ HM.out (by intro h; simp [h] at hlt)
              obtain ⟨f, hx⟩ : ∃ x, m[k]? = some x := ⟨_, List.getElem?_eq_getElem hlt⟩
              have hat1 := (hat k f hx).below HB.out
              have C0 := hat1.c0
              have C1 := hat1.c1
              have C2 := hat1.c2
              have C3 := hat1.c3
              have C4 := hat1.c4
              have C5 := hat1.c5
              have C6 := hat1.c6
              have C7 := hat1.c7
              have HNX := Lib.hid (tellL_take (L := T0) hx)
              have HFF := Lib.hid (FIT2.out f (List.mem_of_getElem? hx))
              have HLN : (tellL T0 (m.take k)).length ≤ 4096 := by have := tellL_len (m.take k) T0; rw [List.length_take] at this; (try simp only [List.length_nil] at this); omega
              obtain ⟨T, hTT⟩ : ∃ T, tellL T0 (m.take k) = T := ⟨_, rfl⟩
              rw [hTT] at HNX HLN
              obtain ⟨A1, c1, hv1, hv2, hv3⟩ : StV tb T wr := by rw [← hTT]; exact HV.out
              obtain ⟨fb, hfb⟩ : ∃ x, wr.heap.size = x := ⟨_, rfl⟩
              obtain ⟨w4, hw4⟩ : ∃ x, wr.alloc (.cells (FA f) 31) = x := ⟨_, rfl⟩
              have HF4 : Hid (Bk fb 31 (FA f) w4) := Lib.hid (by rw [← hw4, ← hfb]; exact Bk.new _ _ _)
              have HB4 : Hid (Below w.heap.size w w4) := Lib.hid (by rw [← hw4]; exact bTrans HB.out (bAlloc wr _))
              have HS4 : Hid (SlF w4 A1 T) := Lib.hid (by rw [← hw4]; exact hv3.below (bAlloc wr _))
              have HK4 : Hid (Bk tb 26 #[.slice A1 T.length c1] w4) := Lib.hid (by rw [← hw4]; exact hv1.grows (.of_alloc _ _))
              have Ls0 : Hid (StV sb (T0) w4) := Lib.hid (by rw [← hw4]; exact Ks0.out.below (bAlloc wr _))
              have HADD := Lib.hid (st_Add T A1 c1 f w4 HLN hv2 HS4.out HFF.out (HT.out.below HB4.out))
              unfold FA at hw4 HADD
              have HE4 := Lib.hid (And.intro hfb hw4)
              clear hat hat1 hx hTT hv1 hv2 hv3 hfb hw4
              go_upto_region 13 with fail
              rw [HE4.out.1, HE4.out.2]
              clear C0 C1 C2 C3 C4 C5 C6 C7
              have V4 : w4.cell? ⟨tb, 0, none⟩ = some (.slice A1 T.length c1) := HK4.out.cell 0
              have F0 : w4.cell? ⟨fb, 0, none⟩ = some (.int .u32 f.id) := HF4.out.cell 0
              have F1 : w4.cell? ⟨fb, 1, none⟩ = some (.int .u32 f.pe) := HF4.out.cell 1
              have F2 : w4.cell? ⟨fb, 2, none⟩ = some (.int .i64 f.ki) := HF4.out.cell 2
              have F3 : w4.cell? ⟨fb, 3, none⟩ = some (.int .i64 f.fr) := HF4.out.cell 3
              have F4 : w4.cell? ⟨fb, 4, none⟩ = some (.int .i64 f.to) := HF4.out.cell 4
              have F5 : w4.cell? ⟨fb, 5, none⟩ = some (.string f.co) := HF4.out.cell 5
              have F6 : w4.cell? ⟨fb, 6, none⟩ = some (.int .i64 f.nu) := HF4.out.cell 6
              have F7 : w4.cell? ⟨fb, 7, none⟩ = some (.string f.tx) := HF4.out.cell 7
              go_wp2_with fail
              refine HADD.out.mono ?_
              rintro e w5 ⟨⟨A2, c2, rfl, hc2, hs2⟩, hb5⟩
              clear V4 F0 F1 F2 F3 F4 F5 F6 F7
              have hk5 := (hb5.block tb HK4.out.lt).trans HK4.out
              have V5 : w5.cell? ⟨tb, 0, none⟩ = some (.slice A1 T.length c1) := Bk.cell hk5 0
              have D5 : w5.frozen? ⟨tb, 0, none⟩ = false := Bk.frozen hk5 0
              have HV6 : Hid (StV tb (tellL T0 (m.take (k + 1))) (w5.setCell ⟨tb, 0, none⟩ (.slice A2 (addL T f).1.length c2))) := Lib.hid (by rw [HNX.out]; exact StV.put hk5 hc2 hs2 rfl)
              have HB6 : Hid (Below w.heap.size w (w5.setCell ⟨tb, 0, none⟩ (.slice A2 (addL T f).1.length c2))) := Lib.hid ((bTrans HB4.out hb5).setCell (p := ⟨tb, 0, none⟩) HTW.out _)
              have Ms0 : Hid (StV sb (T0) (w5.setCell ⟨tb, 0, none⟩ (.slice A2 (addL T f).1.length c2))) := Lib.hid ((Ls0.out.below hb5).other hk5 HNE.out rfl)
              clear hk5 hc2 hs2 hb5
              go_wp2
              exact ⟨⟨k + 1, by omega, by go_num, HV6, HB6, Ms0⟩, by simp [intOf]; omega⟩
            · obtain rfl : k = m.length := by omega
              have HLU : (tellL T0 m).length ≤ 60 := by have := tellL_len m T0; omega
              have HFU : Hid (∀ f ∈ tellL T0 m, Fit f) := Lib.hid (tellL_all HFT.out FIT2.out)
              have hpre := tellL_pre m T0
              have HUT : Hid (tellL T0 (m.take m.length) = tellL T0 m) := Lib.hid (by rw [List.take_length])
              obtain ⟨U0, hU0⟩ : ∃ T, tellL T0 m = T := ⟨_, rfl⟩
              rw [hU0] at HLU HFU hpre HUT
              obtain ⟨A2, c2, hu1, hu2, hu3⟩ : StV tb U0 wr := by rw [← HUT.out]; exact HV.out
              obtain ⟨A1', c1', hs1, hs2, hs3⟩ := Ks0.out
              have HLE : T0.length ≤ U0.length := hpre.length_le
              have HPR := Lib.hid hpre
              obtain ⟨wz, hwz⟩ : ∃ x, x = wr := ⟨_, rfl⟩
              rw [← hwz] at hu1 hu3 hs1 hs3 HB
              have HSZ := Lib.hid hs3
              have HUZ := Lib.hid hu3
              have HBZ := Lib.hid HB.out
              have HKP : Hid (∀ W, Below wz.heap.size wz W → W.cell? ⟨sb, 0, none⟩ = some (.slice A1' T0.length c1') ∧ W.cell? ⟨tb, 0, none⟩ = some (.slice A2 U0.length c2)) := Lib.hid fun W hW => ⟨bCell hW (hs1.cell 0), bCell hW (hu1.cell 0)⟩
              have HLS : Hid (∀ W, Calls Tryz.prog 21 #[.agg #[.slice A1' T0.length c1']] W fun e w' => e = .returned (.int .i64 T0.length) ∧ Below W.heap.size W w') := Lib.hid fun W => st_Len A1' T0.length c1' W
              have HLU2 : Hid (∀ W, Calls Tryz.prog 21 #[.agg #[.slice A2 U0.length c2]] W fun e w' => e = .returned (.int .i64 U0.length) ∧ Below W.heap.size W w') := Lib.hid fun W => st_Len A2 U0.length c2 W
              have HW0 : Hid (Below wz.heap.size wz wr) := Lib.hid (by rw [hwz]; exact Below.refl _ _)
              have HAT1 : Hid (∀ (n : Nat), n ≤ T0.length → ∀ W, Calls Tryz.prog 17 #[.agg #[.slice A1' T0.length c1'], .int .i64 n] W fun e w' => e = .returned (.agg #[.slice A1' n n]) ∧ Below W.heap.size W w') := Lib.hid fun n hn W => by
                have h := st_At T0 A1' c1' (n : Int) W (by omega) hs2
                rw [show atN T0 (n : Int) = n by unfold atN; omega] at h
                exact h
              have HAT2 : Hid (∀ (n : Nat), n ≤ T0.length → ∀ W, Calls Tryz.prog 17 #[.agg #[.slice A2 U0.length c2], .int .i64 n] W fun e w' => e = .returned (.agg #[.slice A2 n n]) ∧ Below W.heap.size W w') := Lib.hid fun n hn W => by
                have h := st_At U0 A2 c2 (n : Int) W (by omega) hu2
                rw [show atN U0 (n : Int) = n by unfold atN; omega] at h
                exact h
              have HPN : Hid (∀ n, n ≤ T0.length → ∃ P : List Fa, P.length = n ∧ T0.take n = P ∧ U0.take n = P) := Lib.hid fun n hn => by
                obtain ⟨R, hR⟩ := HPR.out
                refine ⟨T0.take n, by rw [List.length_take]; omega, rfl, ?_⟩
                rw [← hR, List.take_append_of_le_length hn]
              have HFP : Hid (∀ n, ∀ f ∈ T0.take n, Fit f) := Lib.hid fun n f hf => HFT.out f (List.mem_of_mem_take hf)
              have HCH1 : Hid (∀ (n : Nat), n ≤ T0.length → ∀ W, Below wz.heap.size wz W → Calls Tryz.prog 16 #[.agg #[.slice A1' n n], .agg #[.slice A2 n n]] W fun e w' => (∃ C cp, e = .returned (.slice C 0 cp)) ∧ Below W.heap.size W w') := Lib.hid fun n hn W hW => by
                obtain ⟨P, hP, hPT, hPU⟩ := HPN.out n hn
                have hf := HFP.out n
                rw [hPT] at hf
                have h := st_Changed P P A1' A2 n n W (by omega) (by omega) (by rw [← hPT]; exact (HSZ.out.take_ n).below hW) (by rw [← hPU]; exact (HUZ.out.take_ n).below hW) hf hf (.inl (by rw [bothL_self]; exact Nat.zero_le _))
                rw [hP] at h
                refine h.mono ?_
                rintro e w' ⟨⟨C, cp, he, _, _⟩, hb⟩
                have h0 : (changedL P P).length = 0 := by rw [changedL_len, bothL_self]; rfl
                rw [h0] at he
                exact ⟨⟨C, cp, he⟩, hb⟩
              have HCH2 : Hid (∀ (n : Nat), n ≤ T0.length → ∀ W, Below wz.heap.size wz W → Calls Tryz.prog 16 #[.agg #[.slice A2 n n], .agg #[.slice A1' n n]] W fun e w' => (∃ C cp, e = .returned (.slice C 0 cp)) ∧ Below W.heap.size W w') := Lib.hid fun n hn W hW => by
                obtain ⟨P, hP, hPT, hPU⟩ := HPN.out n hn
                have hf := HFP.out n
                rw [hPT] at hf
                have h := st_Changed P P A2 A1' n n W (by omega) (by omega) (by rw [← hPU]; exact (HUZ.out.take_ n).below hW) (by rw [← hPT]; exact (HSZ.out.take_ n).below hW) hf hf (.inl (by rw [bothL_self]; exact Nat.zero_le _))
                rw [hP] at h
                refine h.mono ?_
                rintro e w' ⟨⟨C, cp, he, _, _⟩, hb⟩
                have h0 : (changedL P P).length = 0 := by rw [changedL_len, bothL_self]; rfl
                rw [h0] at he
                exact ⟨⟨C, cp, he⟩, hb⟩
              clear HV Ks0 HUT hU0 hpre hu1 hu2 hu3 hs1 hs2 hs3 hwz HB
              go_wp2
              go_loopw [11] (fun nv wr => ∃ n : Nat, n ≤ T0.length + 1 ∧ nv = .int .i64 n ∧ Hid (Below wz.heap.size wz wr)) (fun nv _ => T0.length + 1 - (intOf nv).toNat)
              case atStart => exact ⟨0, Nat.zero_le _, rfl, HW0⟩
              case round =>
                obtain ⟨n, hn, rfl, HW⟩ := hrel
                have V1 := (HKP.out _ HW.out).1
                by_cases hle : n ≤ T0.length
                · have a1 := Lib.hid (HAT1.out n hle)
                  have a2 := Lib.hid (HAT2.out n hle)
                  have a3 := Lib.hid (HCH1.out n hle)
                  have a4 := Lib.hid (HCH2.out n hle)
                  have a5 : Hid (∀ W, Calls Tryz.prog 22 #[.agg #[.slice A1' n n]] W fun e w' => e = .returned (.int .i64 n) ∧ Below W.heap.size W w') := Lib.hid fun W => vi_Len A1' n n W
                  have a6 : Hid (∀ W, Calls Tryz.prog 22 #[.agg #[.slice A2 n n]] W fun e w' => e = .returned (.int .i64 n) ∧ Below W.heap.size W w') := Lib.hid fun W => vi_Len A2 n n W
                  go_wp2_with fail
                  refine (HLS.out _).mono ?_
                  rintro e w9 ⟨rfl, hb9⟩
                  have HX : Hid (Below wz.heap.size wz w9.drew) := Lib.hid (bTrans (bTrans HW.out hb9) (bDrew _))
                  obtain ⟨V2, V3⟩ := HKP.out w9 (bTrans HW.out hb9)
                  clear hb9 HW V1
                  go_wp2_with fail
                  go_region_held3 (fun W => W.cell? ⟨sb, 0, none⟩ = some (.slice A1' T0.length c1') ∧ W.cell? ⟨tb, 0, none⟩ = some (.slice A2 U0.length c2)) (first | exact HKP.out _ HX.out | go_keep) (first | (go_at_call 17; with_reducible refine (a1.out _).mono ?_; rintro e wn ⟨rfl, hbn⟩; replace HX := Lib.hid (bTrans HX.out hbn); clear hbn) | (go_at_call 17; with_reducible refine (a2.out _).mono ?_; rintro e wn ⟨rfl, hbn⟩; replace HX := Lib.hid (bTrans HX.out hbn); clear hbn) | (go_at_call 22; with_reducible refine (a5.out _).mono ?_; rintro e wn ⟨rfl, hbn⟩; replace HX := Lib.hid (bTrans HX.out hbn); clear hbn) | (go_at_call 22; with_reducible refine (a6.out _).mono ?_; rintro e wn ⟨rfl, hbn⟩; replace HX := Lib.hid (bTrans HX.out hbn); clear hbn) | (go_at_call 16; with_reducible refine (a3.out _ HX.out).mono ?_; rintro e wn ⟨⟨D1, d1, rfl⟩, hbn⟩; replace HX := Lib.hid (bTrans HX.out hbn); clear hbn) | (go_at_call 16; with_reducible refine (a4.out _ HX.out).mono ?_; rintro e wn ⟨⟨D2, d2, rfl⟩, hbn⟩; replace HX := Lib.hid (bTrans HX.out hbn); clear hbn))
                  clear V2 V3
                  go_wp2
                  exact ⟨⟨n + 1, by omega, by go_num, HX⟩, by simp [intOf]; omega⟩
                · go_wp2_with fail
                  refine (HLS.out _).mono ?_
                  rintro e w9 ⟨rfl, hb9⟩
                  have HX : Hid (Below wz.heap.size wz w9.drew) := Lib.hid (bTrans (bTrans HW.out hb9) (bDrew _))
                  obtain ⟨V2, V3⟩ := HKP.out w9 (bTrans HW.out hb9)
                  have HAW2 : Hid (∀ W, Below wz.heap.size wz W → Calls Tryz.prog 12 #[] W fun e w' => e = .returned (.bool true) ∧ Below W.heap.size W w') := Lib.hid fun W hW => HAW.out W (bTrans HBZ.out hW)
                  clear hb9 HW V1
                  go_wp2_with fail
                  go_region_held3 (fun W => W.cell? ⟨sb, 0, none⟩ = some (.slice A1' T0.length c1') ∧ W.cell? ⟨tb, 0, none⟩ = some (.slice A2 U0.length c2)) (first | exact HKP.out _ HX.out | go_keep) (first | (go_at_call 12; with_reducible refine (HAW2.out _ HX.out).mono ?_; rintro e wn ⟨rfl, hbn⟩; replace HX := Lib.hid (bTrans HX.out hbn); clear hbn) | (go_at_call 21; with_reducible refine (HLS.out _).mono ?_; rintro e wn ⟨rfl, hbn⟩; replace HX := Lib.hid (bTrans HX.out hbn); clear hbn) | (go_at_call 21; with_reducible refine (HLU2.out _).mono ?_; rintro e wn ⟨rfl, hbn⟩; replace HX := Lib.hid (bTrans HX.out hbn); clear hbn))
                  have HFIN := Lib.hid (bTrans HBZ.out HX.out)
                  clear V2 V3 HX
                  go_wp2
                  go_ret
                  exact ⟨rfl, HFIN.out⟩
end Go.Proofs.YtdpejolpjhlibaaGreatDoor
