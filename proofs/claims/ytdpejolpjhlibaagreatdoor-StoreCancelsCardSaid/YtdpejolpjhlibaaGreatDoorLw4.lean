/- The walk of StoreAgain. -/
import Derived.Test.YtdpejolpjhlibaaGreatDoorLw3
namespace Go.Proofs.YtdpejolpjhlibaaGreatDoor
open Go.RowKit Go.Sort

set_option maxHeartbeats 4000000 in
set_option maxRecDepth 100000 in
theorem lw_Again (l : List Fa) (A : Option Addr) (ca : Nat) (w : World) (hl : l.length ≤ 9223372036854775807) (fl : ∀ f ∈ l, FitW f) (hL : SlF w A l) (hT : Tb w) :
    Calls Tryz.prog 4 #[.slice A l.length ca] w fun e w' => e = .returned (.bool true) ∧ Below w.heap.size w w' := by
  have HT := Lib.hid hT
  have HL := Lib.hid hL
  have HSL := Lib.hid (la_short l A ca w hl hL)
  have HAW : Hid (∀ W, Below w.heap.size w W → Calls Tryz.prog 12 #[] W fun e w' => e = .returned (.bool true) ∧ Below W.heap.size W w') := Lib.hid fun W hW => la_awake W (hT.below hW)
  obtain ⟨x1, h1⟩ : ∃ x, shortB l = x := ⟨_, rfl⟩
  rw [h1] at HSL
  have HF1 : Hid (x1 = true → (∀ f ∈ l, Fit f) ∧ l.length ≤ 30) := Lib.hid fun h => short_all (h1.trans h) fl
  clear h1 hT hL fl
  cases x1 with
  | false =>
    go_enter Tryz.func4, Tryz.ntmps4
    go_wp2_with fail
    refine HSL.out.mono ?_
    rintro e w1 ⟨rfl, hb1⟩
    have HB1 := Lib.hid hb1
    clear hb1
    go_wp2_with fail
    refine (HAW.out _ HB1.out).mono ?_
    rintro e w2 ⟨rfl, hb2⟩
    have HB2 := Lib.hid (bTrans HB1.out hb2)
    clear hb2
    go_wp2
    go_ret
    exact ⟨rfl, HB2.out⟩
  | true =>
    obtain ⟨fit1, len1⟩ := HF1.out rfl
    have FIT1 := Lib.hid fit1
    clear fit1 HF1
    go_enter Tryz.func4, Tryz.ntmps4
    go_wp2_with fail
    refine HSL.out.mono ?_
    rintro e w1 ⟨rfl, hb1⟩
    have HB1 := Lib.hid hb1
    clear hb1
    go_wp2
    go_loopw [16] (fun iv wr => ∃ k : Nat, k ≤ l.length ∧ iv = .int .i64 k ∧ Hid (∀ f ∈ l.take k, f.id ≠ 0) ∧ Hid (Below w.heap.size w wr)) (fun iv _ => l.length - (intOf iv).toNat)
    case atStart => exact ⟨0, Nat.zero_le _, rfl, Lib.hid (fun f hf => absurd hf (by simp)), HB1⟩
    case round =>
      obtain ⟨k, hk, rfl, HI, HB⟩ := hrel
      by_cases hlt : k < l.length
      · obtain ⟨b, off, rfl, hbl, hat⟩ := SlF.open_ HL.out (by intro h; simp [h] at hlt)
        obtain ⟨f, hx⟩ : ∃ x, l[k]? = some x := ⟨_, List.getElem?_eq_getElem hlt⟩
        have hat1 := (hat k f hx).below HB.out
        have C0 := hat1.c0
        have C1 := hat1.c1
        have C2 := hat1.c2
        have C3 := hat1.c3
        have C4 := hat1.c4
        have C5 := hat1.c5
        have C6 := hat1.c6
        have C7 := hat1.c7
        have HX := Lib.hid hx
        have HBA : Hid (∀ o, Below w.heap.size w (wr.alloc o)) := Lib.hid (fun o => bTrans HB.out (bAlloc wr o))
        clear hat hat1 hx
        by_cases h0 : f.id = 0
        · have hd : ((f.id : Int) == 0) = true := by simp [h0]
          have HD := Lib.hid h0
          clear h0
          go_wp2_with fail
          refine (HAW.out _ (HBA.out _)).mono ?_
          rintro e w2 ⟨rfl, hb2⟩
          have HB2 := Lib.hid (bTrans (HBA.out _) hb2)
          clear hb2 C0 C1 C2 C3 C4 C5 C6 C7
          go_wp2
          go_ret
          exact ⟨rfl, HB2.out⟩
        · have hd : ((f.id : Int) == 0) = false := by simp [h0]
          have HN : Hid (∀ g ∈ l.take (k + 1), g.id ≠ 0) := Lib.hid (fun g hg => by
            rw [List.take_add_one, HX.out] at hg
            rcases List.mem_append.1 hg with h | h
            · exact HI.out g h
            · obtain rfl : g = f := by simpa using h
              exact h0)
          clear h0
          go_wp2
          exact ⟨⟨k + 1, by omega, by go_num, HN, Lib.hid (HBA.out _)⟩, by simp [intOf]; omega⟩
      · obtain rfl : k = l.length := by omega
        have HID : Hid (∀ f ∈ l, f.id ≠ 0) := Lib.hid (fun f hf => HI.out f (by rw [List.take_length]; exact hf))
        have HIM := Lib.hid (st_Import [] none 0 l A ca wr (by decide) (by decide) (fun h => absurd rfl h) (by omega) (HL.out.below HB.out) FIT1.out (HT.out.below HB.out))
        have HLE0 := imp_len l [] [] 0
        obtain ⟨⟨N, p, en⟩, hN⟩ : ∃ x, impL [] [] 0 l = x := ⟨_, rfl⟩
        have HIM2 : Hid (Calls Tryz.prog 20 #[.agg #[.slice none 0 0], .slice A l.length ca] wr fun e w' => (∃ A1 c1, e = .returned (.tuple #[.agg #[.slice A1 N.length c1], .int .i64 (p : Nat), .int .i64 en]) ∧ N.length ≤ c1 ∧ SlF w' A1 N) ∧ Below wr.heap.size wr w') := Lib.hid (by
          have h := HIM.out
          unfold impR at h
          rw [hN] at h
          exact h)
        rw [hN] at HLE0
        have HBAD : Hid (en ≠ 0 → N = []) := Lib.hid (fun h => by have := imp_bad l [] [] 0 (by rw [hN]; exact h); rw [hN] at this; exact this)
        have HFN : Hid (∀ f ∈ N, Fit f) := Lib.hid (by have := imp_mem (P := Fit) l [] [] 0 (fun _ h => absurd h (by simp)) (fun _ h => absurd h (by simp)) FIT1.out; rw [hN] at this; exact this)
        have HGOOD : Hid (en = 0 → impL N N 0 l = (N, l.length, 0)) := Lib.hid (fun h => by
          subst h
          have h2 := (imp_hits l [] [] N 0 p hN HID.out).2
          rw [imp_all l N N 0 h2, Nat.zero_add])
        have HLN : N.length ≤ 30 := by simp only [List.length_nil] at HLE0; omega
        clear hN HIM HLE0 HID HI hlt
        go_wp2_with fail
        refine HIM2.out.mono ?_
        rintro e w2 ⟨⟨A1, c1, rfl, hc1, hs1⟩, hb2⟩
        obtain ⟨sb, hsb⟩ : ∃ x, w2.heap.size = x := ⟨_, rfl⟩
        obtain ⟨w3, hw3⟩ : ∃ x, w2.alloc (.cells #[.slice A1 N.length c1] 26) = x := ⟨_, rfl⟩
        have HV3 : Hid (Bk sb 26 #[.slice A1 N.length c1] w3) := Lib.hid (by rw [← hw3, ← hsb]; exact Bk.new _ _ _)
        have HS3 : Hid (SlF w3 A1 N) := Lib.hid (by rw [← hw3]; exact hs1.below (bAlloc _ _))
        have HB3 : Hid (Below w.heap.size w w3) := Lib.hid (by rw [← hw3]; exact bTrans (bTrans HB.out hb2) (bAlloc _ _))
        have HE3 := Lib.hid (And.intro hsb hw3)
        clear hsb hw3 hs1 hb2
        go_upto_region 10 with fail
        rw [HE3.out.1, HE3.out.2]
        have V3 : w3.cell? ⟨sb, 0, none⟩ = some (.slice A1 N.length c1) := HV3.out.cell 0
        by_cases he : en = 0
        · have HG := Lib.hid (HGOOD.out he)
          have hd : ((en : Int) != 0) = false := by simp [he]
          have HIM3 := Lib.hid (st_Import N A1 c1 l A ca w3 (by omega) hc1 HS3.out (by omega) (HL.out.below HB3.out) FIT1.out (HT.out.below HB3.out))
          have HIM4 : Hid (Calls Tryz.prog 20 #[.agg #[.slice A1 N.length c1], .slice A l.length ca] w3 fun e w' => (∃ A2 c2, e = .returned (.tuple #[.agg #[.slice A2 N.length c2], .int .i64 (l.length : Nat), .int .i64 0]) ∧ N.length ≤ c2 ∧ SlF w' A2 N) ∧ Below w3.heap.size w3 w') := Lib.hid (by
            have h := HIM3.out
            unfold impR at h
            rw [HG.out] at h
            exact h)
          clear HIM3 he
          go_wp2_with fail
          refine HIM4.out.mono ?_
          rintro e w4 ⟨⟨A2, c2, rfl, hc2, hs2⟩, hb4⟩
          obtain ⟨tb, htb⟩ : ∃ x, w4.heap.size = x := ⟨_, rfl⟩
          obtain ⟨w5, hw5⟩ : ∃ x, w4.alloc (.cells #[.slice A2 N.length c2] 26) = x := ⟨_, rfl⟩
          have HV5 : Hid (Bk tb 26 #[.slice A2 N.length c2] w5) := Lib.hid (by rw [← hw5, ← htb]; exact Bk.new _ _ _)
          have HS5 : Hid (SlF w5 A2 N) := Lib.hid (by rw [← hw5]; exact hs2.below (bAlloc _ _))
          have HBB : Hid (Below w3.heap.size w3 w5) := Lib.hid (by rw [← hw5]; exact bTrans hb4 (bAlloc _ _))
          have HB5 : Hid (Below w.heap.size w w5) := Lib.hid (bTrans HB3.out HBB.out)
          have HVS5 : Hid (Bk sb 26 #[.slice A1 N.length c1] w5) := Lib.hid ((HBB.out.block sb HV3.out.lt).trans HV3.out)
          have HE5 := Lib.hid (And.intro htb hw5)
          clear htb hw5 hs2 hb4 V3
          go_upto_region 13 with fail
          rw [HE5.out.1, HE5.out.2]
          have HKP : Hid (∀ W, Below w5.heap.size w5 W → W.cell? ⟨sb, 0, none⟩ = some (.slice A1 N.length c1) ∧ W.cell? ⟨tb, 0, none⟩ = some (.slice A2 N.length c2)) := Lib.hid fun W hW => ⟨bCell hW (HVS5.out.cell 0), bCell hW (HV5.out.cell 0)⟩
          have HAW2 : Hid (∀ W, Below w5.heap.size w5 W → Calls Tryz.prog 12 #[] W fun e w' => e = .returned (.bool true) ∧ Below W.heap.size W w') := Lib.hid fun W hW => HAW.out W (bTrans HB5.out hW)
          have a1 : Hid (∀ W, Calls Tryz.prog 21 #[.agg #[.slice A1 N.length c1]] W fun e w' => e = .returned (.int .i64 N.length) ∧ Below W.heap.size W w') := Lib.hid fun W => st_Len A1 N.length c1 W
          have a2 : Hid (∀ W, Calls Tryz.prog 21 #[.agg #[.slice A2 N.length c2]] W fun e w' => e = .returned (.int .i64 N.length) ∧ Below W.heap.size W w') := Lib.hid fun W => st_Len A2 N.length c2 W
          have a3 : Hid (∀ W, Calls Tryz.prog 17 #[.agg #[.slice A1 N.length c1], .int .i64 N.length] W fun e w' => e = .returned (.agg #[.slice A1 N.length N.length]) ∧ Below W.heap.size W w') := Lib.hid fun W => by
            have h := st_At N A1 c1 (N.length : Int) W (by omega) hc1
            rw [show atN N (N.length : Int) = N.length by unfold atN; omega] at h
            exact h
          have a4 : Hid (∀ W, Calls Tryz.prog 17 #[.agg #[.slice A2 N.length c2], .int .i64 N.length] W fun e w' => e = .returned (.agg #[.slice A2 N.length N.length]) ∧ Below W.heap.size W w') := Lib.hid fun W => by
            have h := st_At N A2 c2 (N.length : Int) W (by omega) hc2
            rw [show atN N (N.length : Int) = N.length by unfold atN; omega] at h
            exact h
          have a5 : Hid (∀ W, Below w5.heap.size w5 W → Calls Tryz.prog 16 #[.agg #[.slice A1 N.length N.length], .agg #[.slice A2 N.length N.length]] W fun e w' => (∃ C cp, e = .returned (.slice C 0 cp)) ∧ Below W.heap.size W w') := Lib.hid fun W hW => by
            refine (st_Changed N N A1 A2 N.length N.length W (by omega) (by omega) ((HS3.out.below HBB.out).below hW) (HS5.out.below hW) HFN.out HFN.out (.inl (by rw [bothL_self]; exact Nat.zero_le _))).mono ?_
            rintro e w' ⟨⟨C, cp, he, _, _⟩, hb⟩
            have h0 : (changedL N N).length = 0 := by rw [changedL_len, bothL_self]; rfl
            rw [h0] at he
            exact ⟨⟨C, cp, he⟩, hb⟩
          obtain ⟨V5, V6⟩ := HKP.out w5 (Below.refl _ _)
          have HX : Hid (Below w5.heap.size w5 w5.drew) := Lib.hid (bDrew _)
          go_region_held3 (fun W => W.cell? ⟨sb, 0, none⟩ = some (.slice A1 N.length c1) ∧ W.cell? ⟨tb, 0, none⟩ = some (.slice A2 N.length c2)) (first | exact HKP.out _ HX.out | go_keep) (first | (go_at_call 12; with_reducible refine (HAW2.out _ HX.out).mono ?_; rintro e wn ⟨rfl, hbn⟩; replace HX := Lib.hid (bTrans HX.out hbn); clear hbn) | (go_at_call 21; with_reducible refine (a1.out _).mono ?_; rintro e wn ⟨rfl, hbn⟩; replace HX := Lib.hid (bTrans HX.out hbn); clear hbn) | (go_at_call 21; with_reducible refine (a2.out _).mono ?_; rintro e wn ⟨rfl, hbn⟩; replace HX := Lib.hid (bTrans HX.out hbn); clear hbn) | (go_at_call 17; with_reducible refine (a3.out _).mono ?_; rintro e wn ⟨rfl, hbn⟩; replace HX := Lib.hid (bTrans HX.out hbn); clear hbn) | (go_at_call 17; with_reducible refine (a4.out _).mono ?_; rintro e wn ⟨rfl, hbn⟩; replace HX := Lib.hid (bTrans HX.out hbn); clear hbn) | (go_at_call 16; with_reducible refine (a5.out _ HX.out).mono ?_; rintro e wn ⟨⟨D1, d1, rfl⟩, hbn⟩; replace HX := Lib.hid (bTrans HX.out hbn); clear hbn))
          have HFIN := Lib.hid (bTrans HB5.out HX.out)
          clear V5 V6 HX
          go_wp2
          go_ret
          exact ⟨rfl, HFIN.out⟩
        · have hd : ((en : Int) != 0) = true := by simp [he]
          obtain rfl : N = [] := HBAD.out he
          clear he
          go_wp2_with fail
          refine (HAW.out _ HB3.out).mono ?_
          rintro e w4 ⟨rfl, hb4⟩
          have HB4 := Lib.hid (bTrans HB3.out hb4)
          have V4 := bCell hb4 V3
          have a1 := Lib.hid (st_Len A1 0 c1 w4)
          clear hb4 V3
          go_wp2_with fail
          refine a1.out.mono ?_
          rintro e w5 ⟨rfl, hb5⟩
          have HB5 := Lib.hid (bTrans HB4.out hb5)
          clear hb5 V4
          go_wp2
          go_ret
          exact ⟨rfl, HB5.out⟩
end Go.Proofs.YtdpejolpjhlibaaGreatDoor
