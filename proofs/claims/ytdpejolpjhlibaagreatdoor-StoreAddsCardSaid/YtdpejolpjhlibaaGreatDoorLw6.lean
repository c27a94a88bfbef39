import Derived.Test.YtdpejolpjhlibaaGreatDoorIs9
import Derived.Test.YtdpejolpjhlibaaGreatDoorOp9
/- The walk of StoreAdds. -/
namespace Go.Proofs.YtdpejolpjhlibaaGreatDoor
open Go.RowKit Go.Sort

theorem StV.new6 {L : List Fa} {A : Option Addr} {cap : Nat} (w : World) (hc : L.length ≤ cap) (hs : SlF w A L) : StV w.heap.size L (w.alloc (.cells #[.slice A L.length cap] 26)) :=
  ⟨A, cap, Bk.new _ _ _, hc, hs.below (bAlloc _ _)⟩

set_option maxHeartbeats 4000000 in
set_option maxRecDepth 100000 in
theorem lw_Adds (l : List Fa) (A : Option Addr) (ca : Nat) (w : World) (hl : l.length ≤ 9223372036854775807) (fl : ∀ f ∈ l, FitW f) (hL : SlF w A l) (hT : Tb w) :
    Calls Tryz.prog 7 #[.slice A l.length ca] w fun e w' => e = .returned (.bool true) ∧ Below w.heap.size w w' := by
  have HT := Lib.hid hT
  have HL := Lib.hid hL
  have HSL := Lib.hid (la_short l A ca w hl hL)
  have HAW : Hid (∀ W, Below w.heap.size w W → Calls Tryz.prog 12 #[] W fun e w' => e = .returned (.bool true) ∧ Below W.heap.size W w') := Lib.hid fun W hW => la_awake W (hT.below hW)
  obtain ⟨x1, h1⟩ : ∃ x, shortB l = x := ⟨_, rfl⟩
  rw [h1] at HSL
  have HF1 : Hid (x1 = true → (∀ f ∈ l, Fit f) ∧ l.length ≤ 30) := Lib.hid fun h => short_all (h1.trans h) fl
  clear h1 hT hL fl
  cases x1 with
  | false =>
    go_enter Tryz.func7, Tryz.ntmps7
    go_wp2_with fail
    refine HSL.out.mono ?_
    rintro e w1 ⟨rfl, hb1⟩
    have HB1 := Lib.hid hb1
    clear hb1
    go_wp2_with fail
    refine (HAW.out _ HB1.out).mono ?_
    rintro e w2 ⟨rfl, hb2⟩
    have HB2 := Lib.hid (bTrans HB1.out hb2)
    clear hb2
    go_wp2
    go_ret
    exact ⟨rfl, HB2.out⟩
  | true =>
    obtain ⟨fit1, len1⟩ := HF1.out rfl
    have FIT1 := Lib.hid fit1
    clear fit1 HF1
    go_enter Tryz.func7, Tryz.ntmps7
    go_wp2_with fail
    refine HSL.out.mono ?_
    rintro e w1 ⟨rfl, hb1⟩
    have HB1 := Lib.hid hb1
    clear hb1
    obtain ⟨sb, hsb⟩ : ∃ x, w1.heap.size = x := ⟨_, rfl⟩
    obtain ⟨w3, hw3⟩ : ∃ x, w1.alloc (.cells #[.slice none 0 0] 26) = x := ⟨_, rfl⟩
    have HV3 : Hid (StV sb [] w3) := Lib.hid (by rw [← hw3, ← hsb]; exact StV.new6 (L := []) w1 (Nat.le_refl _) (fun h => absurd rfl h))
    have HB3 : Hid (Below w.heap.size w w3) := Lib.hid (by rw [← hw3]; exact bTrans HB1.out (bAlloc _ _))
    have HSW : Hid (w.heap.size ≤ sb) := Lib.hid (by rw [← hsb]; exact HB1.out.size)
    have HE3 := Lib.hid (And.intro hsb hw3)
    clear hsb hw3
    go_upto_region 4 with fail
    rw [HE3.out.1, HE3.out.2]
    go_wp2
    go_loopw [4, 19] (fun mv iv wr => ∃ (k cm : Nat) (M : Option Addr), k ≤ l.length ∧ iv = .int .i64 k ∧ mv = .slice M (tellL [] (l.take k)).length cm ∧ Hid ((tellL [] (l.take k)).length ≤ cm ∧ SlF wr M (tellL [] (l.take k))) ∧ Hid (StV sb (tellL [] (l.take k)) wr) ∧ Hid (Below w.heap.size w wr)) (fun _ iv _ => l.length - (intOf iv).toNat)
    case atStart => exact ⟨0, 0, none, Nat.zero_le _, rfl, rfl, Lib.hid ⟨Nat.le_refl _, fun h => absurd rfl h⟩, HV3, HB3⟩
    case round =>
      obtain ⟨k, cm, M, hk, rfl, rfl, HM, HV, HB⟩ := hrel
      by_cases hlt : k < l.length
      · obtain ⟨b, off, rfl, hbl, hat⟩ := SlF.open_ HL.out (by intro h; simp [h] at hlt)
        obtain ⟨f, hx⟩ : ∃ x, l[k]? = some x := ⟨_, List.getElem?_eq_getElem hlt⟩
        obtain ⟨C0, C1, C2, C3, C4, C5, C6, C7⟩ := (hat k f hx).below HB.out
        have HNX := Lib.hid (tellL_take (L := []) hx)
        have HFF := Lib.hid (FIT1.out f (List.mem_of_getElem? hx))
        have HLN : (tellL [] (l.take k)).length ≤ 4096 := by have := tellL_len (l.take k) []; rw [List.length_take] at this; (try simp only [List.length_nil] at this); omega
        obtain ⟨T, hTT⟩ : ∃ T, tellL [] (l.take k) = T := ⟨_, rfl⟩
        rw [hTT] at HNX HLN HM
        obtain ⟨A1, c1, hv1, hv2, hv3⟩ : StV sb T wr := by rw [← hTT]; exact HV.out
        obtain ⟨N, en, hN⟩ : ∃ N en, addL T f = (N, en) := ⟨_, _, rfl⟩
        have HNL : Hid (N.length ≤ 4096) := Lib.hid (by have := addL_len T f HLN; rwa [hN] at this)
        have HNX2 : Hid (tellL [] (l.take (k + 1)) = N) := Lib.hid (by rw [HNX.out, hN])
        obtain ⟨fb, hfb⟩ : ∃ x, wr.heap.size = x := ⟨_, rfl⟩
        obtain ⟨w4, hw4⟩ : ∃ x, wr.alloc (.cells (FA f) 31) = x := ⟨_, rfl⟩
        obtain ⟨ob, hob⟩ : ∃ x, fb + 1 = x := ⟨_, rfl⟩
        obtain ⟨w5, hw5⟩ : ∃ x, w4.alloc (.cells #[.slice A1 T.length c1] 26) = x := ⟨_, rfl⟩
        have HF4 : Hid (Bk fb 31 (FA f) w4) := Lib.hid (by rw [← hw4, ← hfb]; exact Bk.new _ _ _)
        have hbr4 : Below wr.heap.size wr w4 := by rw [← hw4]; exact bAlloc _ _
        have hb45 : Below w4.heap.size w4 w5 := by rw [← hw5]; exact bAlloc _ _
        have hbr5 : Below wr.heap.size wr w5 := bTrans hbr4 hb45
        have HB5 : Hid (Below w.heap.size w w5) := Lib.hid (bTrans HB.out hbr5)
        have HF5 : Hid (Bk fb 31 (FA f) w5) := Lib.hid ((hb45.block fb HF4.out.lt).trans HF4.out)
        have HS5 : Hid (SlF w5 A1 T) := Lib.hid (hv3.below hbr5)
        have HM5 : Hid (SlF w5 M T) := Lib.hid (HM.out.2.below hbr5)
        have HMC : Hid (T.length ≤ cm) := Lib.hid HM.out.1
        have HVB : Hid (Bk sb 26 #[.slice A1 T.length c1] w4) := Lib.hid ((hbr4.block sb hv1.lt).trans hv1)
        have HK5 : Hid (Bk sb 26 #[.slice A1 T.length c1] w5) := Lib.hid ((hbr5.block sb hv1.lt).trans hv1)
        have h4s : w4.heap.size = ob := by rw [← hw4, ← hob, ← hfb]; simp
        have HO5 : Hid (Bk ob 26 #[.slice A1 T.length c1] w5) := Lib.hid (by rw [← hw5, ← h4s]; exact Bk.new _ _ _)
        have HOW : Hid (w.heap.size ≤ ob ∧ ob ≠ sb) := Lib.hid (by have h1 := HB.out.size; have h2 := hv1.lt; omega)
        have HADD := Lib.hid (st_Add T A1 c1 f w5 HLN hv2 HS5.out HFF.out (HT.out.below HB5.out))
        unfold addR at HADD
        rw [hN] at HADD
        unfold FA at hw4 HADD
        have HE4 := Lib.hid (And.intro hfb hw4)
        have HE5 := Lib.hid (And.intro h4s hw5)
        rw [hTT]
        clear hat hx hTT hv1 hv2 hv3 hfb hw4 hw5 hob hbr4 hb45 hbr5 h4s HM HV HNX
        go_upto_region 8 with fail
        rw [HE4.out.1, HE4.out.2]
        clear C0 C1 C2 C3 C4 C5 C6 C7 HE4
        have V4 : w4.cell? ⟨sb, 0, none⟩ = some (.slice A1 T.length c1) := HVB.out.cell 0
        go_upto_region 9 with fail
        rw [HE5.out.1, HE5.out.2]
        clear V4 HE5
        have V5 : w5.cell? ⟨sb, 0, none⟩ = some (.slice A1 T.length c1) := HK5.out.cell 0
        have F0 : w5.cell? ⟨fb, 0, none⟩ = some (.int .u32 f.id) := HF5.out.cell 0
        have F1 : w5.cell? ⟨fb, 1, none⟩ = some (.int .u32 f.pe) := HF5.out.cell 1
        have F2 : w5.cell? ⟨fb, 2, none⟩ = some (.int .i64 f.ki) := HF5.out.cell 2
        have F3 : w5.cell? ⟨fb, 3, none⟩ = some (.int .i64 f.fr) := HF5.out.cell 3
        have F4 : w5.cell? ⟨fb, 4, none⟩ = some (.int .i64 f.to) := HF5.out.cell 4
        have F5 : w5.cell? ⟨fb, 5, none⟩ = some (.string f.co) := HF5.out.cell 5
        have F6 : w5.cell? ⟨fb, 6, none⟩ = some (.int .i64 f.nu) := HF5.out.cell 6
        have F7 : w5.cell? ⟨fb, 7, none⟩ = some (.string f.tx) := HF5.out.cell 7
        go_wp2_with fail
        refine HADD.out.mono ?_
        rintro e w6 ⟨⟨A2, c2, rfl, hc2, hs2⟩, hb6⟩
        clear V5 F0 F1 F2 F3 F4 F5 F6 F7 HADD
        obtain ⟨nb, hnb⟩ : ∃ x, w6.heap.size = x := ⟨_, rfl⟩
        obtain ⟨w7, hw7⟩ : ∃ x, w6.alloc (.cells #[.slice A2 N.length c2] 26) = x := ⟨_, rfl⟩
        have hb67 : Below w6.heap.size w6 w7 := by rw [← hw7]; exact bAlloc _ _
        have hb57 : Below w5.heap.size w5 w7 := bTrans hb6 hb67
        have HB7 : Hid (Below w.heap.size w w7) := Lib.hid (bTrans HB5.out hb57)
        have HF7 : Hid (Bk fb 31 (FA f) w7) := Lib.hid ((hb57.block fb HF5.out.lt).trans HF5.out)
        have HK7 : Hid (Bk sb 26 #[.slice A1 T.length c1] w7) := Lib.hid ((hb57.block sb HK5.out.lt).trans HK5.out)
        have HO7 : Hid (Bk ob 26 #[.slice A1 T.length c1] w7) := Lib.hid ((hb57.block ob HO5.out.lt).trans HO5.out)
        have HN7 : Hid (Bk nb 26 #[.slice A2 N.length c2] w7) := Lib.hid (by rw [← hw7, ← hnb]; exact Bk.new _ _ _)
        have HS7 : Hid (SlF w7 A1 T) := Lib.hid (HS5.out.below hb57)
        have HM7 : Hid (SlF w7 M T) := Lib.hid (HM5.out.below hb57)
        have HP7 : Hid (SlF w7 A2 N) := Lib.hid (Sl.below hs2 hb67)
        have HPC : Hid (N.length ≤ c2) := Lib.hid hc2
        have HE7 := Lib.hid (And.intro hnb hw7)
        have HAD9 := Lib.hid (r9_Add T M cm f w7 HLN HMC.out HM7.out HFF.out)
        unfold addR9 at HAD9
        rw [hN] at HAD9
        unfold FA at HAD9
        clear hs2 hc2 hb6 hb67 hb57 hnb hw7 hN
        go_upto_region 10 with fail
        rw [HE7.out.1, HE7.out.2]
        have F0 : w7.cell? ⟨fb, 0, none⟩ = some (.int .u32 f.id) := HF7.out.cell 0
        have F1 : w7.cell? ⟨fb, 1, none⟩ = some (.int .u32 f.pe) := HF7.out.cell 1
        have F2 : w7.cell? ⟨fb, 2, none⟩ = some (.int .i64 f.ki) := HF7.out.cell 2
        have F3 : w7.cell? ⟨fb, 3, none⟩ = some (.int .i64 f.fr) := HF7.out.cell 3
        have F4 : w7.cell? ⟨fb, 4, none⟩ = some (.int .i64 f.to) := HF7.out.cell 4
        have F5 : w7.cell? ⟨fb, 5, none⟩ = some (.string f.co) := HF7.out.cell 5
        have F6 : w7.cell? ⟨fb, 6, none⟩ = some (.int .i64 f.nu) := HF7.out.cell 6
        have F7 : w7.cell? ⟨fb, 7, none⟩ = some (.string f.tx) := HF7.out.cell 7
        go_wp2_with fail
        refine HAD9.out.mono ?_
        rintro e w8 ⟨⟨M2, d2, rfl, hd2, hm2⟩, hb8⟩
        clear F0 F1 F2 F3 F4 F5 F6 F7 HAD9
        have HB8 : Hid (Below w.heap.size w w8) := Lib.hid (bTrans HB7.out hb8)
        have HK8 : Hid (Bk sb 26 #[.slice A1 T.length c1] w8) := Lib.hid ((hb8.block sb HK7.out.lt).trans HK7.out)
        have HO8 : Hid (Bk ob 26 #[.slice A1 T.length c1] w8) := Lib.hid ((hb8.block ob HO7.out.lt).trans HO7.out)
        have HN8 : Hid (Bk nb 26 #[.slice A2 N.length c2] w8) := Lib.hid ((hb8.block nb HN7.out.lt).trans HN7.out)
        obtain ⟨w9, hw9⟩ : ∃ x, w8.setCell ⟨sb, 0, none⟩ (.slice A2 N.length c2) = x := ⟨_, rfl⟩
        have HB9 : Hid (Below w.heap.size w w9) := Lib.hid (by rw [← hw9]; exact HB8.out.setCell (p := ⟨sb, 0, none⟩) HSW.out _)
        have HK9 : Hid (Bk sb 26 #[.slice A2 N.length c2] w9) := Lib.hid (by rw [← hw9]; exact HK8.out.set_ 0 _)
        have HO9 : Hid (Bk ob 26 #[.slice A1 T.length c1] w9) := Lib.hid (by rw [← hw9]; exact (heap_setCell_other w8 ⟨sb, 0, none⟩ ob _ HOW.out.2).trans HO8.out)
        have HS9 : Hid (SlF w9 A1 T) := Lib.hid (by rw [← hw9]; exact SlF.keepRe (HS7.out.below hb8) HK8.out _)
        have HM9 : Hid (SlF w9 M T) := Lib.hid (by rw [← hw9]; exact SlF.keepRe (HM7.out.below hb8) HK8.out _)
        have HP9 : Hid (SlF w9 A2 N) := Lib.hid (by rw [← hw9]; exact SlF.keepRe (HP7.out.below hb8) HK8.out _)
        have HQ9 : Hid (SlF w9 M2 N) := Lib.hid (by rw [← hw9]; exact SlF.keepRe hm2 HK8.out _)
        have HQC : Hid (N.length ≤ d2) := Lib.hid hd2
        have N8 : w8.cell? ⟨nb, 0, none⟩ = some (.slice A2 N.length c2) := HN8.out.cell 0
        have V8 : w8.cell? ⟨sb, 0, none⟩ = some (.slice A1 T.length c1) := HK8.out.cell 0
        have D8 : w8.frozen? ⟨sb, 0, none⟩ = false := HK8.out.frozen 0
        have HE9 := Lib.hid hw9
        clear hd2 hm2 hb8 hw9
        go_upto_region 12 with fail
        rw [HE9.out]
        clear N8 V8 D8 HE9
        have HIS1 := Lib.hid (la_is N A2 M2 c2 d2 w9 HNL.out HP9.out HQ9.out)
        have V9 : w9.cell? ⟨sb, 0, none⟩ = some (.slice A2 N.length c2) := HK9.out.cell 0
        have hee : (en != en) = false := by simp
        go_wp2_with fail
        refine HIS1.out.mono ?_
        rintro e w10 ⟨rfl, hb10⟩
        have HB10 : Hid (Below w9.heap.size w9 w10) := Lib.hid hb10
        have HIS2 := Lib.hid (la_is T A1 M c1 cm w10 HLN (HS9.out.below hb10) (HM9.out.below hb10))
        have V10 : w10.cell? ⟨ob, 0, none⟩ = some (.slice A1 T.length c1) := bCell hb10 (HO9.out.cell 0)
        clear V9 hb10 HIS1
        go_wp2_with fail
        refine HIS2.out.mono ?_
        rintro e w11 ⟨rfl, hb11⟩
        have HB11 : Hid (Below w9.heap.size w9 w11) := Lib.hid (bTrans HB10.out hb11)
        clear V10 hb11 HIS2
        go_wp2
        refine ⟨⟨k + 1, d2, M2, by omega, by go_num, by rw [HNX2.out], Lib.hid (by rw [HNX2.out]; exact ⟨HQC.out, HQ9.out.below HB11.out⟩), Lib.hid (by rw [HNX2.out]; exact ⟨A2, c2, (HB11.out.block sb HK9.out.lt).trans HK9.out, HPC.out, HP9.out.below HB11.out⟩), Lib.hid (bTrans HB9.out HB11.out)⟩, by simp [intOf]; omega⟩
      · obtain rfl : k = l.length := by omega
        go_wp2_with fail
        refine (HAW.out _ HB.out).mono ?_
        rintro e w2 ⟨rfl, hb2⟩
        have HB2 := Lib.hid (bTrans HB.out hb2)
        clear hb2
        go_wp2
        go_ret
        exact ⟨rfl, HB2.out⟩
end Go.Proofs.YtdpejolpjhlibaaGreatDoor
