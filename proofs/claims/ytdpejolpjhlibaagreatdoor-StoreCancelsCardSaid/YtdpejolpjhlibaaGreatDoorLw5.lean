/- The walk of StoreCancels. -/
import Derived.Test.YtdpejolpjhlibaaGreatDoorLw4
namespace Go.Proofs.YtdpejolpjhlibaaGreatDoor
open Go.RowKit Go.Sort

/-- A slice of one fact, made anew. -/
theorem one_new (f : Fa) (w : World) : SlF (w.alloc (.cells (FA f) 31)) (some ⟨w.heap.size, 0, none⟩) [f] := by
  intro _
  refine ⟨w.heap.size, 0, rfl, size_new _ _, fun i x hx j u hu => ?_⟩
  rw [(Bk.new w 31 _).cell, Nat.zero_add]
  have hi : i < 1 := by have := (List.getElem?_eq_some_iff.1 hx).1; simpa using this
  obtain rfl : i = 0 := by omega
  cases hx
  rw [Nat.zero_mul, Nat.zero_add]
  have h2 : (encF f).toArray[j]? = some u := by simpa using hu
  exact h2
theorem fitCan {n : Nat} (h : n ≤ 1000) : Fit (canF n) := ⟨fitC.id, fitC.pe, fitC.ki, fitC.fr, fitC.to, by show -9223372036854775808 ≤ (n : Int) ∧ (n : Int) ≤ 9223372036854775807; omega, fitC.co, fitC.tx⟩
set_option maxHeartbeats 4000000 in
set_option maxRecDepth 100000 in
theorem lw_CancelsOut (l : List Fa) (A : Option Addr) (ca : Nat) (f : Fa) (w : World) (hl : l.length ≤ 9223372036854775807) (hL : SlF w A l) (hT : Tb w) (hs : shortB l = false ∨ shortB [f] = false ∨ f.ki = 18) :
    Calls Tryz.prog 5 #[.slice A l.length ca, .agg (FA f)] w fun e w' => e = .returned (.bool true) ∧ Below w.heap.size w w' := by
  obtain ⟨pb, hpb⟩ : ∃ x, w.heap.size = x := ⟨_, rfl⟩
  obtain ⟨w0, hw0⟩ : ∃ x, w.alloc (.cells (FA f) 31) = x := ⟨_, rfl⟩
  have HP : Hid (Bk pb 31 (FA f) w0) := Lib.hid (by rw [← hw0, ← hpb]; exact Bk.new _ _ _)
  have HB0 : Hid (Below w.heap.size w w0) := Lib.hid (by rw [← hw0]; exact bAlloc _ _)
  have HT : Hid (Tb w0) := Lib.hid (hT.below HB0.out)
  have HL : Hid (SlF w0 A l) := Lib.hid (hL.below HB0.out)
  have HSL := Lib.hid (la_short l A ca w0 hl HL.out)
  have HAW : Hid (∀ W, Below w0.heap.size w0 W → Calls Tryz.prog 12 #[] W fun e w' => e = .returned (.bool true) ∧ Below W.heap.size W w') := Lib.hid fun W hW => la_awake W (HT.out.below hW)
  have HPK : Hid (∀ W, Below w0.heap.size w0 W → At8 W pb 0 f) := Lib.hid fun W hW => (bk8 HP.out).below hW
  have HE0 := Lib.hid (And.intro hpb hw0)
  obtain ⟨x1, h1⟩ : ∃ x, shortB l = x := ⟨_, rfl⟩
  rw [h1] at HSL hs
  clear h1 hT hL hpb hw0
  unfold FA
  cases x1 with
  | false =>
    go_enter Tryz.func5, Tryz.ntmps5
    go_upto_region 1 with fail
    rw [HE0.out.1, show w.alloc (.cells #[.int .u32 f.id, .int .u32 f.pe, .int .i64 f.ki, .int .i64 f.fr, .int .i64 f.to, .string f.co, .int .i64 f.nu, .string f.tx] 31) = w0 from HE0.out.2]
    go_wp2_with fail
    refine HSL.out.mono ?_
    rintro e w1 ⟨rfl, hb1⟩
    have HB1 := Lib.hid hb1
    clear hb1 hs
    go_wp2_with fail
    refine (HAW.out _ HB1.out).mono ?_
    rintro e w2 ⟨rfl, hb2⟩
    have HB2 := Lib.hid (bTrans HB1.out hb2)
    clear hb2
    go_wp2
    go_ret
    exact ⟨rfl, bTrans HB0.out HB2.out⟩
  | true =>
    have hs := hs.resolve_left (by simp)
    obtain ⟨x2, h2⟩ : ∃ x, shortB [f] = x := ⟨_, rfl⟩
    rw [h2] at hs
    go_enter Tryz.func5, Tryz.ntmps5
    go_upto_region 1 with fail
    rw [HE0.out.1, show w.alloc (.cells #[.int .u32 f.id, .int .u32 f.pe, .int .i64 f.ki, .int .i64 f.fr, .int .i64 f.to, .string f.co, .int .i64 f.nu, .string f.tx] 31) = w0 from HE0.out.2]
    have HH2 := Lib.hid h2
    have HHS := Lib.hid hs
    clear h2 hs
    go_wp2_with fail
    refine HSL.out.mono ?_
    rintro e w1 ⟨rfl, hb1⟩
    obtain ⟨D0, D1, D2, D3, D4, D5, D6, D7⟩ := HPK.out _ hb1
    simp only [Nat.zero_add] at D1 D2 D3 D4 D5 D6 D7
    have HB1 := Lib.hid hb1
    obtain ⟨qb, hqb⟩ : ∃ x, w1.heap.size = x := ⟨_, rfl⟩
    obtain ⟨w2, hw2⟩ : ∃ x, w1.alloc (.cells (FA f) 31) = x := ⟨_, rfl⟩
    have HB2 : Hid (Below w0.heap.size w0 w2) := Lib.hid (by rw [← hw2]; exact bTrans hb1 (bAlloc _ _))
    have HS1 := Lib.hid (la_short [f] (some ⟨qb, 0, none⟩) 1 w2 (by simp) (by rw [← hw2, ← hqb]; exact one_new f w1))
    rw [HH2.out] at HS1
    have HS2 : Hid (Calls Tryz.prog 11 #[.slice (some ⟨qb, 0, none⟩) 1 1] w2 fun e w' => e = .returned (.bool x2) ∧ Below w2.heap.size w2 w') := HS1
    have HE2 := Lib.hid (And.intro hqb hw2)
    clear hb1 hqb hw2 HS1
    go_wp2_with fail
    rw [HE2.out.1, show w1.alloc (.cells #[.int .u32 f.id, .int .u32 f.pe, .int .i64 f.ki, .int .i64 f.fr, .int .i64 f.to, .string f.co, .int .i64 f.nu, .string f.tx] 31) = w2 from HE2.out.2]
    refine HS2.out.mono ?_
    rintro e w3 ⟨rfl, hb3⟩
    have HB3 := Lib.hid (bTrans HB2.out hb3)
    clear hb3 D0 D1 D2 D3 D4 D5 D6 D7
    cases x2 with
    | false =>
      go_wp2_with fail
      refine (HAW.out _ HB3.out).mono ?_
      rintro e w4 ⟨rfl, hb4⟩
      have HB4 := Lib.hid (bTrans HB3.out hb4)
      clear hb4
      go_wp2
      go_ret
      exact ⟨rfl, bTrans HB0.out HB4.out⟩
    | true =>
      have hk := HHS.out.resolve_left (by simp)
      have hd : ((f.ki : Int) == 18) = true := by simp [hk]
      have E2 : w3.cell? ⟨pb, 2, none⟩ = some (.int .i64 f.ki) := (HPK.out _ HB3.out).c2
      clear hk
      go_wp2_with fail
      refine (HAW.out _ HB3.out).mono ?_
      rintro e w4 ⟨rfl, hb4⟩
      have HB4 := Lib.hid (bTrans HB3.out hb4)
      clear hb4 E2
      go_wp2
      go_ret
      exact ⟨rfl, bTrans HB0.out HB4.out⟩
set_option maxHeartbeats 4000000 in
set_option maxRecDepth 100000 in
theorem lw_CancelsIn (l : List Fa) (A : Option Addr) (ca : Nat) (f : Fa) (w : World) (hl : l.length ≤ 9223372036854775807) (fl : ∀ x ∈ l, FitW x) (ff : FitW f) (hL : SlF w A l) (hT : Tb w) (hs1 : shortB l = true) (hs2 : shortB [f] = true) (hk : f.ki ≠ 18) :
    Calls Tryz.prog 5 #[.slice A l.length ca, .agg (FA f)] w fun e w' => e = .returned (.bool true) ∧ Below w.heap.size w w' := by
  obtain ⟨pb, hpb⟩ : ∃ x, w.heap.size = x := ⟨_, rfl⟩
  obtain ⟨w0, hw0⟩ : ∃ x, w.alloc (.cells (FA f) 31) = x := ⟨_, rfl⟩
  have HP : Hid (Bk pb 31 (FA f) w0) := Lib.hid (by rw [← hw0, ← hpb]; exact Bk.new _ _ _)
  have HB0 : Hid (Below w.heap.size w w0) := Lib.hid (by rw [← hw0]; exact bAlloc _ _)
  have HT : Hid (Tb w0) := Lib.hid (hT.below HB0.out)
  have HL : Hid (SlF w0 A l) := Lib.hid (hL.below HB0.out)
  have HSL := Lib.hid (la_short l A ca w0 hl HL.out)
  have HAW : Hid (∀ W, Below w0.heap.size w0 W → Calls Tryz.prog 12 #[] W fun e w' => e = .returned (.bool true) ∧ Below W.heap.size W w') := Lib.hid fun W hW => la_awake W (HT.out.below hW)
  have HPK : Hid (∀ W, Below w0.heap.size w0 W → At8 W pb 0 f) := Lib.hid fun W hW => (bk8 HP.out).below hW
  have HE0 := Lib.hid (And.intro hpb hw0)
  rw [hs1] at HSL
  have F1 := short_all hs1 fl
  have F2 := short_all hs2 (fun x hx => by rw [List.mem_singleton.1 hx]; exact ff)
  have FIT1 := Lib.hid F1.1
  have len1 := F1.2
  have HFF0 : Hid (Fit f) := Lib.hid (F2.1 f (by simp))
  have HKI := Lib.hid hk
  have hd : ((f.ki : Int) == 18) = false := by simp [hk]
  have HH2 := Lib.hid hs2
  clear F1 F2 hs1 hs2 hk hT hL fl ff hpb hw0
  unfold FA
  go_enter Tryz.func5, Tryz.ntmps5
  go_upto_region 1 with fail
  rw [HE0.out.1, show w.alloc (.cells #[.int .u32 f.id, .int .u32 f.pe, .int .i64 f.ki, .int .i64 f.fr, .int .i64 f.to, .string f.co, .int .i64 f.nu, .string f.tx] 31) = w0 from HE0.out.2]
  go_wp2_with fail
  refine HSL.out.mono ?_
  rintro e w1 ⟨rfl, hb1⟩
  obtain ⟨D0, D1, D2, D3, D4, D5, D6, D7⟩ := HPK.out _ hb1
  simp only [Nat.zero_add] at D1 D2 D3 D4 D5 D6 D7
  have HB1 := Lib.hid hb1
  obtain ⟨qb, hqb⟩ : ∃ x, w1.heap.size = x := ⟨_, rfl⟩
  obtain ⟨w2, hw2⟩ : ∃ x, w1.alloc (.cells (FA f) 31) = x := ⟨_, rfl⟩
  have HB2 : Hid (Below w0.heap.size w0 w2) := Lib.hid (by rw [← hw2]; exact bTrans hb1 (bAlloc _ _))
  have HS1 := Lib.hid (la_short [f] (some ⟨qb, 0, none⟩) 1 w2 (by simp) (by rw [← hw2, ← hqb]; exact one_new f w1))
  rw [HH2.out] at HS1
  have HS2 : Hid (Calls Tryz.prog 11 #[.slice (some ⟨qb, 0, none⟩) 1 1] w2 fun e w' => e = .returned (.bool true) ∧ Below w2.heap.size w2 w') := HS1
  have HE2 := Lib.hid (And.intro hqb hw2)
  clear hb1 hqb hw2 HS1
  go_wp2_with fail
  rw [HE2.out.1, show w1.alloc (.cells #[.int .u32 f.id, .int .u32 f.pe, .int .i64 f.ki, .int .i64 f.fr, .int .i64 f.to, .string f.co, .int .i64 f.nu, .string f.tx] 31) = w2 from HE2.out.2]
  refine HS2.out.mono ?_
  rintro e w3 ⟨rfl, hb3⟩
  have HB3 := Lib.hid (bTrans HB2.out hb3)
  clear hb3 D0 D1 D2 D3 D4 D5 D6 D7
  have E2 : w3.cell? ⟨pb, 2, none⟩ = some (.int .i64 f.ki) := (HPK.out _ HB3.out).c2
  obtain ⟨sb, hsb⟩ : ∃ x, w3.heap.size = x := ⟨_, rfl⟩
  obtain ⟨w4, hw4⟩ : ∃ x, w3.alloc (.cells #[.slice none 0 0] 26) = x := ⟨_, rfl⟩
  have HV4 : Hid (StV sb [] w4) := Lib.hid (by rw [← hw4, ← hsb]; exact StV.new (L := []) w3 (Nat.le_refl _) (fun h => absurd rfl h))
  have HB4 : Hid (Below w0.heap.size w0 w4) := Lib.hid (by rw [← hw4]; exact bTrans HB3.out (bAlloc _ _))
  have HSW : Hid (w0.heap.size ≤ sb) := Lib.hid (by rw [← hsb]; exact HB3.out.size)
  have HE4 := Lib.hid (And.intro hsb hw4)
  clear hsb hw4
  go_upto_region 4 with fail
  rw [HE4.out.1, HE4.out.2]
  clear E2
  go_wp2
  go_loopw [28] (fun iv wr => ∃ k : Nat, k ≤ l.length ∧ iv = .int .i64 k ∧ Hid (StV sb (tellL [] (l.take k)) wr) ∧ Hid (Below w0.heap.size w0 wr)) (fun iv _ => l.length - (intOf iv).toNat)
  case atStart => exact ⟨0, Nat.zero_le _, rfl, HV4, HB4⟩
  case round =>
    obtain ⟨k, hk, rfl, HV, HB⟩ := hrel
    by_cases hlt : k < l.length
    · obtain ⟨b, off, rfl, hbl, hat⟩ := SlF.open_ HL.out (by intro h; simp [h] at hlt)
      obtain ⟨y, hx⟩ : ∃ x, l[k]? = some x := ⟨_, List.getElem?_eq_getElem hlt⟩
      have hat1 := (hat k y hx).below HB.out
      have C0 := hat1.c0
      have C1 := hat1.c1
      have C2 := hat1.c2
      have C3 := hat1.c3
      have C4 := hat1.c4
      have C5 := hat1.c5
      have C6 := hat1.c6
      have C7 := hat1.c7
      have HNX := Lib.hid (tellL_take (L := []) hx)
      have HFF := Lib.hid (FIT1.out y (List.mem_of_getElem? hx))
      have HLN : (tellL [] (l.take k)).length ≤ 4096 := by have := tellL_len (l.take k) []; rw [List.length_take] at this; (try simp only [List.length_nil] at this); omega
      obtain ⟨T, hTT⟩ : ∃ T, tellL [] (l.take k) = T := ⟨_, rfl⟩
      rw [hTT] at HNX HLN
      obtain ⟨A1, c1, hv1, hv2, hv3⟩ : StV sb T wr := by rw [← hTT]; exact HV.out
      obtain ⟨fb, hfb⟩ : ∃ x, wr.heap.size = x := ⟨_, rfl⟩
      obtain ⟨w4, hw4⟩ : ∃ x, wr.alloc (.cells (FA y) 31) = x := ⟨_, rfl⟩
      have HF4 : Hid (Bk fb 31 (FA y) w4) := Lib.hid (by rw [← hw4, ← hfb]; exact Bk.new _ _ _)
      have HB4 : Hid (Below w0.heap.size w0 w4) := Lib.hid (by rw [← hw4]; exact bTrans HB.out (bAlloc wr _))
      have HS4 : Hid (SlF w4 A1 T) := Lib.hid (by rw [← hw4]; exact hv3.below (bAlloc wr _))
      have HK4 : Hid (Bk sb 26 #[.slice A1 T.length c1] w4) := Lib.hid (by rw [← hw4]; exact hv1.grows (.of_alloc _ _))
      have HADD := Lib.hid (st_Add T A1 c1 y w4 HLN hv2 HS4.out HFF.out (HT.out.below HB4.out))
      unfold FA at hw4 HADD
      have HE4 := Lib.hid (And.intro hfb hw4)
      clear hat hat1 hx hTT hv1 hv2 hv3 hfb hw4
      go_upto_region 7 with fail
      rw [HE4.out.1, HE4.out.2]
      clear C0 C1 C2 C3 C4 C5 C6 C7
      have V4 : w4.cell? ⟨sb, 0, none⟩ = some (.slice A1 T.length c1) := HK4.out.cell 0
      have F0 : w4.cell? ⟨fb, 0, none⟩ = some (.int .u32 y.id) := HF4.out.cell 0
      have F1 : w4.cell? ⟨fb, 1, none⟩ = some (.int .u32 y.pe) := HF4.out.cell 1
      have F2 : w4.cell? ⟨fb, 2, none⟩ = some (.int .i64 y.ki) := HF4.out.cell 2
      have F3 : w4.cell? ⟨fb, 3, none⟩ = some (.int .i64 y.fr) := HF4.out.cell 3
      have F4 : w4.cell? ⟨fb, 4, none⟩ = some (.int .i64 y.to) := HF4.out.cell 4
      have F5 : w4.cell? ⟨fb, 5, none⟩ = some (.string y.co) := HF4.out.cell 5
      have F6 : w4.cell? ⟨fb, 6, none⟩ = some (.int .i64 y.nu) := HF4.out.cell 6
      have F7 : w4.cell? ⟨fb, 7, none⟩ = some (.string y.tx) := HF4.out.cell 7
      go_wp2_with fail
      refine HADD.out.mono ?_
      rintro e w5 ⟨⟨A2, c2, rfl, hc2, hs2⟩, hb5⟩
      clear V4 F0 F1 F2 F3 F4 F5 F6 F7
      have hk5 := (hb5.block sb HK4.out.lt).trans HK4.out
      have V5 : w5.cell? ⟨sb, 0, none⟩ = some (.slice A1 T.length c1) := Bk.cell hk5 0
      have D5 : w5.frozen? ⟨sb, 0, none⟩ = false := Bk.frozen hk5 0
      have HV6 : Hid (StV sb (tellL [] (l.take (k + 1))) (w5.setCell ⟨sb, 0, none⟩ (.slice A2 (addL T y).1.length c2))) := Lib.hid (by rw [HNX.out]; exact StV.put hk5 hc2 hs2 rfl)
      have HB6 : Hid (Below w0.heap.size w0 (w5.setCell ⟨sb, 0, none⟩ (.slice A2 (addL T y).1.length c2))) := Lib.hid ((bTrans HB4.out hb5).setCell (p := ⟨sb, 0, none⟩) HSW.out _)
      clear hk5 hc2 hs2 hb5
      go_wp2
      exact ⟨⟨k + 1, by omega, by go_num, HV6, HB6⟩, by simp [intOf]; omega⟩
    · obtain rfl : k = l.length := by omega
      have HLT : (tellL [] l).length ≤ 30 := by have := tellL_len l []; rw [List.length_nil] at this; omega
      have HBK : Hid (Backs (tellL [] l)) := Lib.hid (Backs.tell Backs.nil)
      have HFT : Hid (∀ x ∈ tellL [] l, Fit x) := Lib.hid (tellL_all (fun _ h => absurd h (by simp)) FIT1.out)
      have HV7 : Hid (StV sb (tellL [] l) wr) := Lib.hid (by have := HV.out; rwa [List.take_length] at this)
      obtain ⟨T, hT0⟩ : ∃ T, tellL [] l = T := ⟨_, rfl⟩
      rw [hT0] at HLT HBK HFT HV7
      obtain ⟨A1, c1, hv1, hv2, hv3⟩ := HV7.out
      obtain ⟨n, hn⟩ : ∃ n, T.length = n := ⟨_, rfl⟩
      rw [hn] at hv1 hv2 HLT
      have HBS : Hid (Bk sb 26 #[.slice A1 n c1] wr) := Lib.hid hv1
      have HSS := Lib.hid hv3
      have HNT := Lib.hid hn
      have V7 : wr.cell? ⟨sb, 0, none⟩ = some (.slice A1 n c1) := hv1.cell 0
      have P8 := HPK.out _ HB.out
      obtain ⟨D0, D1, D2, D3, D4, D5, D6, D7⟩ := P8
      simp only [Nat.zero_add] at D1 D2 D3 D4 D5 D6 D7
      have HADF : Hid (Calls Tryz.prog 13 #[.agg #[.slice A1 n c1], .agg (FA f)] wr fun e w' => addR T f e w' ∧ Below wr.heap.size wr w') := Lib.hid (by
        have h := st_Add T A1 c1 f wr (by rw [hn]; omega) (by rw [hn]; exact hv2) hv3 HFF0.out (HT.out.below HB.out)
        rw [hn] at h
        exact h)
      unfold FA at HADF
      clear hT0 HV HV7 hn hv1 hv3 hlt
      have HAW2 : Hid (∀ W, Below wr.heap.size wr W → Calls Tryz.prog 12 #[] W fun e w' => e = .returned (.bool true) ∧ Below W.heap.size W w') := Lib.hid fun W hW => HAW.out W (bTrans HB.out hW)
      have a1 : Hid (∀ W, Calls Tryz.prog 21 #[.agg #[.slice A1 n c1]] W fun e w' => e = .returned (.int .i64 n) ∧ Below W.heap.size W w') := Lib.hid fun W => st_Len A1 n c1 W
      rcases addL_or T f with ⟨en, hen, hadd⟩ | ⟨hadd, _, _, _, _⟩
      · have hde : ((en : Int) != 0) = true := by simp [hen]
        have HADE : Hid (Calls Tryz.prog 13 #[.agg #[.slice A1 n c1], .agg #[.int .u32 f.id, .int .u32 f.pe, .int .i64 f.ki, .int .i64 f.fr, .int .i64 f.to, .string f.co, .int .i64 f.nu, .string f.tx]] wr fun e w' => (∃ A2 c2, e = .returned (.tuple #[.agg #[.slice A2 n c2], .int .i64 en])) ∧ Below wr.heap.size wr w') := Lib.hid (HADF.out.mono fun e w' h => ⟨by
          obtain ⟨⟨A2, c2, he, _, _⟩, _⟩ := h
          rw [hadd] at he
          rw [show (T, en).1.length = n from HNT.out] at he
          exact ⟨A2, c2, he⟩, h.2⟩)
        clear hen hadd HADF
        go_wp2_with fail
        refine HADE.out.mono ?_
        rintro e w5 ⟨⟨A2, c2, rfl⟩, hb5⟩
        clear D0 D1 D2 D3 D4 D5 D6 D7 V7
        obtain ⟨tb, htb⟩ : ∃ x, w5.heap.size = x := ⟨_, rfl⟩
        obtain ⟨w6, hw6⟩ : ∃ x, w5.alloc (.cells #[.slice A2 n c2] 26) = x := ⟨_, rfl⟩
        have HT6 : Hid (Bk tb 26 #[.slice A2 n c2] w6) := Lib.hid (by rw [← hw6, ← htb]; exact Bk.new _ _ _)
        have HB6 : Hid (Below wr.heap.size wr w6) := Lib.hid (by rw [← hw6]; exact bTrans hb5 (bAlloc _ _))
        have HS6 : Hid (Bk sb 26 #[.slice A1 n c1] w6) := Lib.hid ((HB6.out.block sb HBS.out.lt).trans HBS.out)
        have HE6 := Lib.hid (And.intro htb hw6)
        clear htb hw6 hb5
        have a2 : Hid (∀ W, Calls Tryz.prog 21 #[.agg #[.slice A2 n c2]] W fun e w' => e = .returned (.int .i64 n) ∧ Below W.heap.size W w') := Lib.hid fun W => st_Len A2 n c2 W
        have HKP : Hid (∀ W, Below w6.heap.size w6 W → W.cell? ⟨sb, 0, none⟩ = some (.slice A1 n c1) ∧ W.cell? ⟨tb, 0, none⟩ = some (.slice A2 n c2)) := Lib.hid fun W hW => ⟨bCell hW (HS6.out.cell 0), bCell hW (HT6.out.cell 0)⟩
        have HAW3 : Hid (∀ W, Below w6.heap.size w6 W → Calls Tryz.prog 12 #[] W fun e w' => e = .returned (.bool true) ∧ Below W.heap.size W w') := Lib.hid fun W hW => HAW2.out W (bTrans HB6.out hW)
        go_upto_region 10 with fail
        rw [HE6.out.1, HE6.out.2]
        obtain ⟨V8, V9⟩ := HKP.out w6 (Below.refl _ _)
        have HX : Hid (Below w6.heap.size w6 w6.drew) := Lib.hid (bDrew _)
        go_wp2_with fail
        go_region_held3 (fun W => W.cell? ⟨sb, 0, none⟩ = some (.slice A1 n c1) ∧ W.cell? ⟨tb, 0, none⟩ = some (.slice A2 n c2)) (first | exact HKP.out _ HX.out | go_keep) (first | (go_at_call 12; (with_reducible refine (HAW3.out _ HX.out).mono ?_); rintro e wn ⟨rfl, hbn⟩; replace HX := Lib.hid (bTrans HX.out hbn); clear hbn) | (go_at_call 21; (with_reducible refine (a1.out _).mono ?_); rintro e wn ⟨rfl, hbn⟩; replace HX := Lib.hid (bTrans HX.out hbn); clear hbn) | (go_at_call 21; (with_reducible refine (a2.out _).mono ?_); rintro e wn ⟨rfl, hbn⟩; replace HX := Lib.hid (bTrans HX.out hbn); clear hbn))
        have HFIN := Lib.hid (bTrans HB0.out (bTrans (bTrans HB.out HB6.out) HX.out))
        clear V8 V9 HX
        go_wp2
        go_ret
        exact ⟨rfl, HFIN.out⟩
      · obtain ⟨n1, hn1⟩ : ∃ m, n + 1 = m := ⟨_, rfl⟩
        obtain ⟨n2, hn2⟩ : ∃ m, n + 2 = m := ⟨_, rfl⟩
        have HNN := Lib.hid (And.intro hn1 hn2)
        have hn1' : n1 ≤ 31 := by omega
        have hn2' : n2 ≤ 32 := by omega
        have HADE : Hid (Calls Tryz.prog 13 #[.agg #[.slice A1 n c1], .agg #[.int .u32 f.id, .int .u32 f.pe, .int .i64 f.ki, .int .i64 f.fr, .int .i64 f.to, .string f.co, .int .i64 f.nu, .string f.tx]] wr fun e w' => (∃ A2 c2, e = .returned (.tuple #[.agg #[.slice A2 n1 c2], .int .i64 0]) ∧ n1 ≤ c2 ∧ SlF w' A2 (T ++ [f])) ∧ Below wr.heap.size wr w') := Lib.hid (HADF.out.mono fun e w' h => ⟨by
          obtain ⟨⟨A2, c2, he, h2, h3⟩, _⟩ := h
          rw [hadd] at he h2 h3
          have hlen : (T ++ [f]).length = n1 := by rw [List.length_append, HNT.out]; exact hn1
          rw [show (T ++ [f], (0 : Int)).1.length = n1 from hlen] at he h2
          exact ⟨A2, c2, he, h2, h3⟩, h.2⟩)
        clear hadd HADF hn1 hn2
        go_wp2_with fail
        refine HADE.out.mono ?_
        rintro e w5 ⟨⟨A2, c2, rfl, hc2, hs5⟩, hb5⟩
        clear D0 D1 D2 D3 D4 D5 D6 D7 V7
        obtain ⟨tb, htb⟩ : ∃ x, w5.heap.size = x := ⟨_, rfl⟩
        obtain ⟨w6, hw6⟩ : ∃ x, w5.alloc (.cells #[.slice A2 n1 c2] 26) = x := ⟨_, rfl⟩
        have HT6 : Hid (Bk tb 26 #[.slice A2 n1 c2] w6) := Lib.hid (by rw [← hw6, ← htb]; exact Bk.new _ _ _)
        have HB6 : Hid (Below wr.heap.size wr w6) := Lib.hid (by rw [← hw6]; exact bTrans hb5 (bAlloc _ _))
        have HS6 : Hid (Bk sb 26 #[.slice A1 n c1] w6) := Lib.hid ((HB6.out.block sb HBS.out.lt).trans HBS.out)
        have HSA6 : Hid (SlF w6 A1 T) := Lib.hid (HSS.out.below HB6.out)
        have HSB6 : Hid (SlF w6 A2 (T ++ [f])) := Lib.hid (by rw [← hw6]; exact hs5.below (bAlloc _ _))
        have HBW6 : Hid (Below w0.heap.size w0 w6) := Lib.hid (bTrans HB.out HB6.out)
        have HE6 := Lib.hid (And.intro htb hw6)
        clear htb hw6 hb5 hs5
        have a2 : Hid (∀ W, Calls Tryz.prog 21 #[.agg #[.slice A2 n1 c2]] W fun e w' => e = .returned (.int .i64 n1) ∧ Below W.heap.size W w') := Lib.hid fun W => st_Len A2 n1 c2 W
        have hlen1 : (T ++ [f]).length = n1 := by rw [List.length_append, HNT.out]; exact HNN.out.1
        have hcan : canF ((T.length : Int) + 1) = canF (n1 : Int) := by rw [HNT.out]; congr 1; have := HNN.out.1; omega
        have hlen2 : (T ++ [f] ++ [canF (n1 : Int)]).length = n2 := by rw [List.length_append, hlen1]; have := HNN.out; simp; omega
        have HADC : Hid (∀ W, Below w6.heap.size w6 W → Calls Tryz.prog 13 #[.agg #[.slice A2 n1 c2], .agg #[.int .u32 0, .int .u32 0, .int .i64 18, .int .i64 0, .int .i64 0, .string ⟨#[]⟩, .int .i64 n1, .string ⟨#[]⟩]] W fun e w' => (∃ A3 c3, e = .returned (.tuple #[.agg #[.slice A3 n2 c3], .int .i64 0]) ∧ n2 ≤ c3 ∧ SlF w' A3 (T ++ [f] ++ [canF (n1 : Int)])) ∧ Below W.heap.size W w') := Lib.hid fun W hW => by
          have h := st_Add (T ++ [f]) A2 c2 (canF (n1 : Int)) W (by omega) (by omega) (HSB6.out.below hW) (fitCan (by omega)) ((HT.out.below HBW6.out).below hW)
          have hok := can_ok (L := T) (f := f) HBK.out HKI.out (by rw [HNT.out]; omega)
          rw [hcan] at hok
          rw [hlen1] at h
          unfold addR at h
          rw [hok] at h
          refine h.mono fun e w' h => ⟨?_, h.2⟩
          obtain ⟨⟨A3, c3, he, h2, h3⟩, _⟩ := h
          rw [show (T ++ [f] ++ [canF (n1 : Int)], (0 : Int)).1.length = n2 from hlen2] at he h2
          exact ⟨A3, c3, he, h2, h3⟩
        have HADD2 : Hid (∀ A3 c3, n2 ≤ c3 → ∀ W, Tb W → SlF W A3 (T ++ [f] ++ [canF (n1 : Int)]) → Calls Tryz.prog 13 #[.agg #[.slice A3 n2 c3], .agg #[.int .u32 0, .int .u32 0, .int .i64 18, .int .i64 0, .int .i64 0, .string ⟨#[]⟩, .int .i64 n1, .string ⟨#[]⟩]] W fun e w' => (∃ A4 c4, e = .returned (.tuple #[.agg #[.slice A4 n2 c4], .int .i64 18])) ∧ Below W.heap.size W w') := Lib.hid fun A3 c3 hc3 W hTW hW => by
          have h := st_Add (T ++ [f] ++ [canF (n1 : Int)]) A3 c3 (canF (n1 : Int)) W (by omega) (by omega) hW (fitCan (by omega)) hTW
          have hok := can_twice (L := T) (f := f) HKI.out (by rw [HNT.out]; omega)
          rw [hcan] at hok
          rw [hlen2] at h
          unfold addR at h
          rw [hok] at h
          refine h.mono fun e w' h => ⟨?_, h.2⟩
          obtain ⟨⟨A4, c4, he, h2, h3⟩, _⟩ := h
          rw [show (T ++ [f] ++ [canF (n1 : Int)], (18 : Int)).1.length = n2 from hlen2] at he
          exact ⟨A4, c4, he⟩
        have HCAN := Lib.hid hcan
        have HL12 := Lib.hid (And.intro hlen1 hlen2)
        clear hlen1 hlen2 hcan
        go_upto_region 12 with fail
        rw [HE6.out.1, HE6.out.2]
        go_cut [9, 10] from 55 to 62 (fun ev uv wx => ev = .int .i64 0 ∧ ∃ (ub : Nat) (A3 : Option Addr) (c3 : Nat), uv = .pointer (some ⟨ub, 0, none⟩) ∧ n2 ≤ c3 ∧ Hid (Bk ub 26 #[.slice A3 n2 c3] wx) ∧ Hid (SlF wx A3 (T ++ [f] ++ [canF (n1 : Int)])) ∧ Hid (Below w6.heap.size w6 wx))
        case first =>
          have HKP : Hid (∀ W, Below w6.heap.size w6 W → W.cell? ⟨tb, 0, none⟩ = some (.slice A2 n1 c2)) := Lib.hid fun W hW => bCell hW (HT6.out.cell 0)
          have V9 := HKP.out w6 (Below.refl _ _)
          have HX : Hid (Below w6.heap.size w6 w6.drew) := Lib.hid (bDrew _)
          have HXA : Hid (Below w6.heap.size w6 (w6.alloc (.cells #[.slice none 0 0] 26)).drew) := Lib.hid (bTrans (bAlloc _ _) (bDrew _))
          have HNB1 : Hid (∀ w', Below (w6.alloc (.cells #[.slice none 0 0] 26)).drew.heap.size (w6.alloc (.cells #[.slice none 0 0] 26)).drew w' → Bk w6.heap.size 26 #[.slice none 0 0] w' ∧ Below w6.heap.size w6 w') := Lib.hid fun w' h => ⟨(h.block w6.heap.size (size_new w6 _)).trans (new_block w6 _), bTrans HXA.out h⟩
          have HNB2 : Hid (∀ W w' : World, Below w6.heap.size w6 W → Below (W.alloc (.cells #[.slice none 0 0] 26)).heap.size (W.alloc (.cells #[.slice none 0 0] 26)) w' → Bk W.heap.size 26 #[.slice none 0 0] w' ∧ Below w6.heap.size w6 w') := Lib.hid fun W w' hW h => ⟨(h.block W.heap.size (size_new W _)).trans (new_block W _), bTrans hW (bTrans (bAlloc _ _) h)⟩
          go_region_held3 (fun W => W.cell? ⟨tb, 0, none⟩ = some (.slice A2 n1 c2)) (first | exact HKP.out _ HX.out | exact HKP.out _ (bTrans HX.out (bAlloc _ _)) | exact HKP.out _ HXA.out | exact HKP.out _ ((bTrans HX.out (bAlloc _ _)).setCell (p := ⟨_, 0, none⟩) HX.out.size _) | exact HKP.out _ (HX.out.setCell (p := ⟨_, 0, none⟩) HUW.out _) | go_keep) (first | (go_at_call 21; (with_reducible refine (a2.out w6.drew).mono ?_); rintro e wn ⟨rfl, hbn⟩; replace HX := Lib.hid (bTrans HX.out hbn); clear hbn) | (go_at_call 21; (with_reducible refine (a2.out _).mono ?_); rintro e wn ⟨rfl, hbn⟩; have hzb := (HNB1.out _ hbn).1; replace HX := Lib.hid (HNB1.out _ hbn).2; have HUW : Hid (w6.heap.size ≤ w6.heap.size) := Lib.hid (Nat.le_refl _); have HZB := Lib.hid hzb; clear hbn hzb) | (go_at_call 13; (with_reducible refine (HADC.out _ HX.out).mono ?_); rintro e wm ⟨⟨A3, c3, rfl, hc3, hs3⟩, hbm⟩; replace HX := Lib.hid (bTrans HX.out hbm); have HS3 := Lib.hid hs3; (try (have hzb := (hbm.block _ HZB.out.lt).trans HZB.out; have hzc : wm.cell? ⟨w6.heap.size, 0, none⟩ = some (.slice none 0 0) := Bk.cell hzb 0; have hzf : wm.frozen? ⟨w6.heap.size, 0, none⟩ = false := Bk.frozen hzb 0; replace HZB := Lib.hid hzb; clear hzb)); clear hbm hs3) | (go_at_call 13; (with_reducible refine (HADC.out _ (bTrans HX.out (bAlloc _ _))).mono ?_); rintro e wm ⟨⟨A3, c3, rfl, hc3, hs3⟩, hbm⟩; have hzb := (HNB2.out _ _ HX.out hbm).1; have HUW : Hid (w6.heap.size ≤ wn.heap.size) := Lib.hid HX.out.size; replace HX := Lib.hid (HNB2.out _ _ HX.out hbm).2; have HS3 := Lib.hid hs3; have hzc : wm.cell? ⟨wn.heap.size, 0, none⟩ = some (.slice none 0 0) := Bk.cell hzb 0; have hzf : wm.frozen? ⟨wn.heap.size, 0, none⟩ = false := Bk.frozen hzb 0; have HZB := Lib.hid hzb; clear hzb hbm hs3))
          all_goals
            go_wp2_with fail
            go_meet
            first
              | exact ⟨rfl, _, A3, c3, rfl, hc3, Lib.hid (Bk.new wm _ _), Lib.hid (HS3.out.below (bAlloc _ _)), Lib.hid (bTrans HX.out (bAlloc _ _))⟩
              | exact ⟨rfl, _, A3, c3, rfl, hc3, Lib.hid (Bk.set_ HZB.out 0 _), Lib.hid (SlF.keepRe HS3.out HZB.out _), Lib.hid (HX.out.setCell (p := ⟨_, 0, none⟩) HUW.out _)⟩
        case rest =>
        obtain ⟨rfl, ub, A3, c3, rfl, hc3, HU, HSU, HBU⟩ := hcut
        obtain ⟨wv, rfl⟩ : ∃ wv : World, wv = wc := ⟨_, rfl⟩
        have HS7 : Hid (Bk sb 26 #[.slice A1 n c1] wv) := Lib.hid ((HBU.out.block sb HS6.out.lt).trans HS6.out)
        have HT7 : Hid (Bk tb 26 #[.slice A2 n1 c2] wv) := Lib.hid ((HBU.out.block tb HT6.out.lt).trans HT6.out)
        have HSA7 : Hid (SlF wv A1 T) := Lib.hid (HSA6.out.below HBU.out)
        have HSB7 : Hid (SlF wv A2 (T ++ [f])) := Lib.hid (HSB6.out.below HBU.out)
        have HBW7 : Hid (Below w0.heap.size w0 wv) := Lib.hid (bTrans HBW6.out HBU.out)
        have HKP : Hid (∀ W, Below wv.heap.size wv W → W.cell? ⟨sb, 0, none⟩ = some (.slice A1 n c1) ∧ W.cell? ⟨tb, 0, none⟩ = some (.slice A2 n1 c2) ∧ W.cell? ⟨ub, 0, none⟩ = some (.slice A3 n2 c3)) := Lib.hid fun W hW => ⟨bCell hW (HS7.out.cell 0), bCell hW (HT7.out.cell 0), bCell hW (HU.out.cell 0)⟩
        have HAW3 : Hid (∀ W, Below wv.heap.size wv W → Calls Tryz.prog 12 #[] W fun e w' => e = .returned (.bool true) ∧ Below W.heap.size W w') := Lib.hid fun W hW => HAW.out W (bTrans HBW7.out hW)
        have a3 : Hid (∀ W, Calls Tryz.prog 21 #[.agg #[.slice A3 n2 c3]] W fun e w' => e = .returned (.int .i64 n2) ∧ Below W.heap.size W w') := Lib.hid fun W => st_Len A3 n2 c3 W
        have a7 : Hid (∀ W, Below wv.heap.size wv W → Calls Tryz.prog 13 #[.agg #[.slice A3 n2 c3], .agg #[.int .u32 0, .int .u32 0, .int .i64 18, .int .i64 0, .int .i64 0, .string ⟨#[]⟩, .int .i64 n1, .string ⟨#[]⟩]] W fun e w' => (∃ A4 c4, e = .returned (.tuple #[.agg #[.slice A4 n2 c4], .int .i64 18])) ∧ Below W.heap.size W w') := Lib.hid fun W hW => HADD2.out A3 c3 hc3 W (HT.out.below (bTrans HBW7.out hW)) (HSU.out.below hW)
        have b1 : Hid (∀ W, Calls Tryz.prog 17 #[.agg #[.slice A1 n c1], .int .i64 n] W fun e w' => e = .returned (.agg #[.slice A1 n n]) ∧ Below W.heap.size W w') := Lib.hid fun W => by
          have h := st_At T A1 c1 (n : Int) W (by have := HNT.out; omega) (by rw [HNT.out]; exact hv2)
          rw [HNT.out, show atN T (n : Int) = n by unfold atN; have := HNT.out; omega] at h
          exact h
        have b2 : Hid (∀ W, Calls Tryz.prog 17 #[.agg #[.slice A2 n1 c2], .int .i64 n1] W fun e w' => e = .returned (.agg #[.slice A2 n1 n1]) ∧ Below W.heap.size W w') := Lib.hid fun W => by
          have h := st_At (T ++ [f]) A2 c2 (n1 : Int) W (by rw [HL12.out.1]; omega) (by rw [HL12.out.1]; exact hc2)
          rw [HL12.out.1, show atN (T ++ [f]) (n1 : Int) = n1 by unfold atN; rw [HL12.out.1]; omega] at h
          exact h
        have b3 : Hid (∀ W, Calls Tryz.prog 17 #[.agg #[.slice A3 n2 c3], .int .i64 n2] W fun e w' => e = .returned (.agg #[.slice A3 n2 n2]) ∧ Below W.heap.size W w') := Lib.hid fun W => by
          have h := st_At (T ++ [f] ++ [canF (n1 : Int)]) A3 c3 (n2 : Int) W (by rw [HL12.out.2]; omega) (by rw [HL12.out.2]; exact hc3)
          rw [HL12.out.2, show atN (T ++ [f] ++ [canF (n1 : Int)]) (n2 : Int) = n2 by unfold atN; rw [HL12.out.2]; omega] at h
          exact h
        have HF1 : Hid (∀ x ∈ T ++ [f], Fit x) := Lib.hid fun x hx => by
          rcases List.mem_append.1 hx with h | h
          · exact HFT.out x h
          · rw [List.mem_singleton.1 h]; exact HFF0.out
        have HF2 : Hid (∀ x ∈ T ++ [f] ++ [canF (n1 : Int)], Fit x) := Lib.hid fun x hx => by
          rcases List.mem_append.1 hx with h | h
          · exact HF1.out x h
          · rw [List.mem_singleton.1 h]; exact fitCan (by omega)
        have HFB : Hid (forceL (T ++ [f] ++ [canF (n1 : Int)]) = forceL T) := Lib.hid (by
          have h := force_back (L := T) (f := f) HKI.out
          rw [HCAN.out] at h
          exact h)
        have HFX : Hid (bothL (forceL T) (forceL (T ++ [f])) = [((T.length : Int) + 1, f)]) := Lib.hid (by
          rw [force_told HBK.out HKI.out]
          refine both_told (fun y hy => chosen_fit HFT.out (by have := HNT.out; omega) y hy) ⟨by have := HNT.out; show -9223372036854775808 ≤ (T.length : Int) + 1 ∧ (T.length : Int) + 1 ≤ 9223372036854775807; omega, HFF0.out⟩ (fun h => ?_)
          have := mem_force_n h
          simp at this; omega)
        have c5 : Hid (∀ W, Below wv.heap.size wv W → Calls Tryz.prog 16 #[.agg #[.slice A1 n n], .agg #[.slice A3 n2 n2]] W fun e w' => (∃ C cp, e = .returned (.slice C 0 cp)) ∧ Below W.heap.size W w') := Lib.hid fun W hW => by
          have h := st_Changed T (T ++ [f] ++ [canF (n1 : Int)]) A1 A3 n n2 W (by have := HNT.out; omega) (by rw [HL12.out.2]; omega) (HSA7.out.below hW) (HSU.out.below hW) HFT.out HF2.out (.inl (by rw [HFB.out, bothL_self]; exact Nat.zero_le _))
          rw [HNT.out, HL12.out.2] at h
          refine h.mono ?_
          rintro e w' ⟨⟨C, cp, he, _, _⟩, hb⟩
          have h0 : (changedL T (T ++ [f] ++ [canF (n1 : Int)])).length = 0 := by rw [changedL_len, HFB.out, bothL_self]; rfl
          rw [h0] at he
          exact ⟨⟨C, cp, he⟩, hb⟩
        have c6 : Hid (∀ W, Below wv.heap.size wv W → Calls Tryz.prog 16 #[.agg #[.slice A1 n n], .agg #[.slice A2 n1 n1]] W fun e w' => (∃ C cp, e = .returned (.slice C 1 cp)) ∧ Below W.heap.size W w') := Lib.hid fun W hW => by
          have h := st_Changed T (T ++ [f]) A1 A2 n n1 W (by have := HNT.out; omega) (by rw [HL12.out.1]; omega) (HSA7.out.below hW) (HSB7.out.below hW) HFT.out HF1.out (.inl (by rw [HFX.out]; exact Nat.le_refl _))
          rw [HNT.out, HL12.out.1] at h
          refine h.mono ?_
          rintro e w' ⟨⟨C, cp, he, _, _⟩, hb⟩
          have h0 : (changedL T (T ++ [f])).length = 1 := by rw [changedL_len, HFX.out]; rfl
          rw [h0] at he
          exact ⟨⟨C, cp, he⟩, hb⟩
        have w15 : IntKind.i64.wrap ((n : Int) + 2) = (n : Int) + 2 := IntWalk.i64_in _ (by omega)
        have hnq : ((n2 : Int) != (n : Int) + 2) = false := by
          have := HNN.out.2
          simp; omega
        obtain ⟨Y1, Y2, Y3⟩ := HKP.out wv (Below.refl _ _)
        have HX : Hid (Below wv.heap.size wv wv.drew) := Lib.hid (bDrew _)
        go_wp2_with fail
        go_region_held3 (fun W => W.cell? ⟨sb, 0, none⟩ = some (.slice A1 n c1) ∧ W.cell? ⟨tb, 0, none⟩ = some (.slice A2 n1 c2) ∧ W.cell? ⟨ub, 0, none⟩ = some (.slice A3 n2 c3)) (first | exact HKP.out _ HX.out | go_keep) (first | (go_at_call 21; (with_reducible refine (a1.out _).mono ?_); rintro e wn ⟨rfl, hbn⟩; replace HX := Lib.hid (bTrans HX.out hbn); clear hbn) | (go_at_call 21; (with_reducible refine (a3.out _).mono ?_); rintro e wn ⟨rfl, hbn⟩; replace HX := Lib.hid (bTrans HX.out hbn); clear hbn))
        clear Y1 Y2 Y3 w15
        obtain ⟨Y1, Y2, Y3⟩ := HKP.out wn HX.out
        obtain ⟨wt, rfl⟩ : ∃ wt : World, wt = wn := ⟨_, rfl⟩
        replace HX : Hid (Below wv.heap.size wv wt.drew) := Lib.hid (bTrans HX.out (bDrew _))
        go_wp2_with fail
        go_region_held3 (fun W => W.cell? ⟨sb, 0, none⟩ = some (.slice A1 n c1) ∧ W.cell? ⟨tb, 0, none⟩ = some (.slice A2 n1 c2) ∧ W.cell? ⟨ub, 0, none⟩ = some (.slice A3 n2 c3)) (first | exact HKP.out _ HX.out | go_keep) (first | (go_at_call 21; (with_reducible refine (a2.out _).mono ?_); rintro e wn ⟨rfl, hbn⟩; replace HX := Lib.hid (bTrans HX.out hbn); clear hbn) | (go_at_call 13; (with_reducible refine (a7.out _ HX.out).mono ?_); rintro e wn ⟨⟨A4, c4, rfl⟩, hbn⟩; replace HX := Lib.hid (bTrans HX.out hbn); clear hbn))
        clear Y1 Y2 Y3
        obtain ⟨Y1, Y2, Y3⟩ := HKP.out wn HX.out
        obtain ⟨wu, rfl⟩ : ∃ wt : World, wt = wn := ⟨_, rfl⟩
        replace HX : Hid (Below wv.heap.size wv wu.drew) := Lib.hid (bTrans HX.out (bDrew _))
        go_wp2_with fail
        go_region_held3 (fun W => W.cell? ⟨sb, 0, none⟩ = some (.slice A1 n c1) ∧ W.cell? ⟨tb, 0, none⟩ = some (.slice A2 n1 c2) ∧ W.cell? ⟨ub, 0, none⟩ = some (.slice A3 n2 c3)) (first | exact HKP.out _ HX.out | go_keep) (first | (go_at_call 12; (with_reducible refine (HAW3.out _ HX.out).mono ?_); rintro e wn ⟨rfl, hbn⟩; replace HX := Lib.hid (bTrans HX.out hbn); clear hbn) | (go_at_call 21; (with_reducible refine (a1.out _).mono ?_); rintro e wn ⟨rfl, hbn⟩; replace HX := Lib.hid (bTrans HX.out hbn); clear hbn) | (go_at_call 21; (with_reducible refine (a2.out _).mono ?_); rintro e wn ⟨rfl, hbn⟩; replace HX := Lib.hid (bTrans HX.out hbn); clear hbn) | (go_at_call 21; (with_reducible refine (a3.out _).mono ?_); rintro e wn ⟨rfl, hbn⟩; replace HX := Lib.hid (bTrans HX.out hbn); clear hbn) | (go_at_call 17; (with_reducible refine (b1.out _).mono ?_); rintro e wn ⟨rfl, hbn⟩; replace HX := Lib.hid (bTrans HX.out hbn); clear hbn) | (go_at_call 17; (with_reducible refine (b2.out _).mono ?_); rintro e wn ⟨rfl, hbn⟩; replace HX := Lib.hid (bTrans HX.out hbn); clear hbn) | (go_at_call 17; (with_reducible refine (b3.out _).mono ?_); rintro e wn ⟨rfl, hbn⟩; replace HX := Lib.hid (bTrans HX.out hbn); clear hbn) | (go_at_call 16; (with_reducible refine (c5.out _ HX.out).mono ?_); rintro e wn ⟨⟨D1, d1, rfl⟩, hbn⟩; replace HX := Lib.hid (bTrans HX.out hbn); clear hbn) | (go_at_call 16; (with_reducible refine (c6.out _ HX.out).mono ?_); rintro e wn ⟨⟨D2, d2, rfl⟩, hbn⟩; replace HX := Lib.hid (bTrans HX.out hbn); clear hbn))
        have HFIN := Lib.hid (bTrans HB0.out (bTrans HBW7.out HX.out))
        clear Y1 Y2 Y3 HX
        go_wp2
        go_ret
        exact ⟨rfl, HFIN.out⟩
theorem lw_Cancels (l : List Fa) (A : Option Addr) (ca : Nat) (f : Fa) (w : World) (hl : l.length ≤ 9223372036854775807) (fl : ∀ x ∈ l, FitW x) (ff : FitW f) (hL : SlF w A l) (hT : Tb w) :
    Calls Tryz.prog 5 #[.slice A l.length ca, .agg (FA f)] w fun e w' => e = .returned (.bool true) ∧ Below w.heap.size w w' := by
  by_cases h1 : shortB l = true
  · by_cases h2 : shortB [f] = true
    · by_cases h3 : f.ki = 18
      · exact lw_CancelsOut l A ca f w hl hL hT (.inr (.inr h3))
      · exact lw_CancelsIn l A ca f w hl fl ff hL hT h1 h2 h3
    · exact lw_CancelsOut l A ca f w hl hL hT (.inr (.inl (by simpa using h2)))
  · exact lw_CancelsOut l A ca f w hl hL hT (.inl (by simpa using h1))
end Go.Proofs.YtdpejolpjhlibaaGreatDoor
