/- The reference's Check of a fact. -/
import Derived.Test.YtdpejolpjhlibaaGreatDoorRg8
import Derived.Deep.RegionHeld3
namespace Go.Proofs.YtdpejolpjhlibaaGreatDoor
open Go.RowKit Go.Sort

theorem kinds18 {k : Int} (h1 : 1 ≤ k) (h18 : k ≤ 18) : k = 1 ∨ k = 2 ∨ k = 3 ∨ k = 4 ∨ k = 5 ∨ k = 6 ∨ k = 7 ∨ k = 8 ∨ k = 9 ∨ k = 10 ∨ k = 11 ∨ k = 12 ∨ k = 13 ∨ k = 14 ∨ k = 15 ∨ k = 16 ∨ k = 17 ∨ k = 18 := by omega
theorem r8_code (f : Fa) (w : World) (hc : f.co.size ≤ 1000000) (h1 : 1 ≤ f.ki) (h18 : f.ki ≤ 18) : Calls Tryz.prog 59 #[.agg (FA f)] w fun e w' => e = .returned (.bool (codeB f.ki (ls f.co))) ∧ Below w.heap.size w w' := by
  obtain ⟨id, pe, ki, fr, tt, co, nu, tx⟩ := f
  have h := kinds18 h1 h18
  simp only at hc h
  clear h1 h18
  rcases h with rfl | rfl | rfl | rfl | rfl | rfl | rfl | rfl | rfl | rfl | rfl | rfl | rfl | rfl | rfl | rfl | rfl | rfl
  · exact r8_code1 id pe fr tt co nu tx w
  · exact r8_code2 id pe fr tt co nu tx w
  · exact r8_code3 id pe fr tt co nu tx w
  · exact r8_code4 id pe fr tt co nu tx w
  · exact r8_code5 id pe fr tt co nu tx w
  · exact r8_code6 id pe fr tt co nu tx w hc
  · exact r8_code7 id pe fr tt co nu tx w
  · exact r8_code8 id pe fr tt co nu tx w hc
  · exact r8_code9 id pe fr tt co nu tx w hc
  · exact r8_code10 id pe fr tt co nu tx w hc
  · exact r8_code11 id pe fr tt co nu tx w
  · exact r8_code12 id pe fr tt co nu tx w hc
  · exact r8_code13 id pe fr tt co nu tx w
  · exact r8_code14 id pe fr tt co nu tx w hc
  · exact r8_code15 id pe fr tt co nu tx w hc
  · exact r8_code16 id pe fr tt co nu tx w
  · exact r8_code17 id pe fr tt co nu tx w
  · exact r8_code18 id pe fr tt co nu tx w
theorem r8_num (f : Fa) (w : World) (h1 : 1 ≤ f.ki) (h18 : f.ki ≤ 18) : Calls Tryz.prog 60 #[.agg (FA f)] w fun e w' => e = .returned (.bool (!decide (f.nu < lowN f.ki ∨ highN f.ki < f.nu))) ∧ Below w.heap.size w w' := by
  obtain ⟨id, pe, ki, fr, tt, co, nu, tx⟩ := f
  have h := kinds18 h1 h18
  simp only at h
  clear h1 h18
  rcases h with rfl | rfl | rfl | rfl | rfl | rfl | rfl | rfl | rfl | rfl | rfl | rfl | rfl | rfl | rfl | rfl | rfl | rfl
  · exact r8_num1 id pe fr tt co nu tx w
  · exact r8_num2 id pe fr tt co nu tx w
  · exact r8_num3 id pe fr tt co nu tx w
  · exact r8_num4 id pe fr tt co nu tx w
  · exact r8_num5 id pe fr tt co nu tx w
  · exact r8_num6 id pe fr tt co nu tx w
  · exact r8_num7 id pe fr tt co nu tx w
  · exact r8_num8 id pe fr tt co nu tx w
  · exact r8_num9 id pe fr tt co nu tx w
  · exact r8_num10 id pe fr tt co nu tx w
  · exact r8_num11 id pe fr tt co nu tx w
  · exact r8_num12 id pe fr tt co nu tx w
  · exact r8_num13 id pe fr tt co nu tx w
  · exact r8_num14 id pe fr tt co nu tx w
  · exact r8_num15 id pe fr tt co nu tx w
  · exact r8_num16 id pe fr tt co nu tx w
  · exact r8_num17 id pe fr tt co nu tx w
  · exact r8_num18 id pe fr tt co nu tx w
theorem r8_text (f : Fa) (w : World) (ht : f.tx.size ≤ 1000000) (h1 : 1 ≤ f.ki) (h18 : f.ki ≤ 18) (hn : ¬ (f.nu < lowN f.ki ∨ highN f.ki < f.nu)) : Calls Tryz.prog 61 #[.agg (FA f)] w fun e w' => e = .returned (.bool (textB f.ki f.nu (ls f.tx))) ∧ Below w.heap.size w w' := by
  obtain ⟨id, pe, ki, fr, tt, co, nu, tx⟩ := f
  have h := kinds18 h1 h18
  simp only at ht h hn
  clear h1 h18
  rcases h with rfl | rfl | rfl | rfl | rfl | rfl | rfl | rfl | rfl | rfl | rfl | rfl | rfl | rfl | rfl | rfl | rfl | rfl
  · exact r8_text1 id pe fr tt co nu tx w
  · exact r8_text2 id pe fr tt co nu tx w
  · exact r8_text3 id pe fr tt co nu tx w
  · exact r8_text4 id pe fr tt co nu tx w ht
  · exact r8_text5 id pe fr tt co nu tx w ht
  · refine r8_text6 id pe fr tt co nu tx w ht ?_
    have e1 : lowN 6 = 0 := rfl
    have e2 : highN 6 = 1440 := rfl
    rw [e1, e2] at hn
    omega
  · exact r8_text7 id pe fr tt co nu tx w
  · exact r8_text8 id pe fr tt co nu tx w
  · exact r8_text9 id pe fr tt co nu tx w
  · exact r8_text10 id pe fr tt co nu tx w
  · exact r8_text11 id pe fr tt co nu tx w ht
  · exact r8_text12 id pe fr tt co nu tx w ht
  · exact r8_text13 id pe fr tt co nu tx w ht
  · exact r8_text14 id pe fr tt co nu tx w ht
  · exact r8_text15 id pe fr tt co nu tx w ht
  · exact r8_text16 id pe fr tt co nu tx w
  · exact r8_text17 id pe fr tt co nu tx w
  · exact r8_text18 id pe fr tt co nu tx w
section
variable {f : Fa}
theorem chk_kind (h : f.ki < 1 ∨ 18 < f.ki) : chkF f = 11 := by unfold chkF; rw [if_pos h]
theorem chk_firm (h1 : ¬ (f.ki < 1 ∨ 18 < f.ki)) (h2 : firmB f.ki ≠ decide (f.pe = 0)) : chkF f = 2 := by unfold chkF; rw [if_neg h1, if_pos h2]
theorem chk_days (h1 : ¬ (f.ki < 1 ∨ 18 < f.ki)) (h2 : firmB f.ki = decide (f.pe = 0)) (h3 : daysE f ≠ 0) : chkF f = daysE f := by unfold chkF; rw [if_neg h1, if_neg (by simpa using h2), if_pos h3]
theorem chk_rest (h1 : ¬ (f.ki < 1 ∨ 18 < f.ki)) (h2 : firmB f.ki = decide (f.pe = 0)) (h3 : daysE f = 0) : chkF f = if codeB f.ki (ls f.co) = false then 12 else if f.nu < lowN f.ki ∨ highN f.ki < f.nu then 2 else if 4096 < f.tx.size then 4 else if textB f.ki f.nu (ls f.tx) = false then 3 else 0 := by
  unfold chkF; rw [if_neg h1, if_neg (by simpa using h2), if_neg (by simpa using h3)]
end
set_option maxHeartbeats 4000000 in
set_option maxRecDepth 100000 in
theorem r8_Check (f : Fa) (w : World) (hf : Fit f) : Calls Tryz.prog 32 #[.agg (FA f)] w fun e w' => e = .returned (.int .i64 (chkF f)) ∧ Below w.heap.size w w' := by
  obtain ⟨pb, hpb⟩ : ∃ x, w.heap.size = x := ⟨_, rfl⟩
  obtain ⟨w2, hw2⟩ : ∃ x, w.alloc (.cells (FA f) 37) = x := ⟨_, rfl⟩
  have HB2 : Hid (Below w.heap.size w w2) := Lib.hid (by rw [← hw2]; exact bAlloc _ _)
  have HBK : Hid (Bk pb 37 (FA f) w2) := Lib.hid (by rw [← hw2, ← hpb]; exact Bk.new _ _ _)
  have HE := Lib.hid (And.intro hpb hw2)
  have HKP : Hid (∀ W, Below w2.heap.size w2 W → At8 W pb 0 f) := Lib.hid fun W hW => At8.below ⟨HBK.out.cell 0, HBK.out.cell 1, HBK.out.cell 2, HBK.out.cell 3, HBK.out.cell 4, HBK.out.cell 5, HBK.out.cell 6, HBK.out.cell 7⟩ hW
  have hki := hf.ki
  have E1 : w2.cell? ⟨pb, 1, none⟩ = some (.int .u32 f.pe) := HBK.out.cell 1
  have E2 : w2.cell? ⟨pb, 2, none⟩ = some (.int .i64 f.ki) := HBK.out.cell 2
  have E3 : w2.cell? ⟨pb, 3, none⟩ = some (.int .i64 f.fr) := HBK.out.cell 3
  have E4 : w2.cell? ⟨pb, 4, none⟩ = some (.int .i64 f.to) := HBK.out.cell 4
  have HFT := Lib.hid hf
  clear hpb hw2 hf
  by_cases hk1 : f.ki < 1
  · have HF : Hid (chkF f = 11) := Lib.hid (chk_kind (.inl hk1))
    have d1 : decide (f.ki < 1) = true := decide_eq_true hk1
    unfold FA at HE ⊢
    go_enter Tryz.func32, Tryz.ntmps32
    go_upto_region 1 with fail
    rw [HE.out.1, HE.out.2]
    go_wp2
    go_ret
    exact ⟨ret_i HF.out.symm, HB2.out⟩
  by_cases hk18 : 18 < f.ki
  · have HF : Hid (chkF f = 11) := Lib.hid (chk_kind (.inr hk18))
    have d1 : decide (f.ki < 1) = false := decide_eq_false hk1
    have d2 : decide (18 < f.ki) = true := decide_eq_true hk18
    unfold FA at HE ⊢
    go_enter Tryz.func32, Tryz.ntmps32
    go_upto_region 1 with fail
    rw [HE.out.1, HE.out.2]
    go_wp2
    go_ret
    exact ⟨ret_i HF.out.symm, HB2.out⟩
  have HK : Hid (¬ (f.ki < 1 ∨ 18 < f.ki)) := Lib.hid (by omega)
  have d1 : decide (f.ki < 1) = false := decide_eq_false hk1
  have d2 : decide (18 < f.ki) = false := decide_eq_false hk18
  have HFI := Lib.hid (fun W => r8_Firm f.ki W)
  have HDA := Lib.hid (fun W => r8_Days f.ki W (by omega) (by omega))
  have HIN := Lib.hid (fun W => r4_In f.fr W)
  have HCO := Lib.hid (fun W => r8_code f W HFT.out.co (by omega) (by omega))
  have HNU := Lib.hid (fun W => r8_num f W (by omega) (by omega))
  have HTX : Hid (¬ (f.nu < lowN f.ki ∨ highN f.ki < f.nu) → ∀ W, Calls Tryz.prog 61 #[.agg (FA f)] W fun e w' => e = .returned (.bool (textB f.ki f.nu (ls f.tx))) ∧ Below W.heap.size W w') := Lib.hid (fun h W => r8_text f W HFT.out.tx (by omega) (by omega) h)
  unfold FA at HE HCO HNU HTX ⊢
  obtain ⟨fi, hfi⟩ : ∃ v, firmB f.ki = v := ⟨_, rfl⟩
  obtain ⟨pz, hpz⟩ : ∃ v, decide (f.pe = 0) = v := ⟨_, rfl⟩
  obtain ⟨db, hdb⟩ : ∃ v, daysB f.ki = v := ⟨_, rfl⟩
  rw [hfi] at HFI
  rw [hdb] at HDA
  have dp : ((f.pe : Int) == 0) = pz := by rw [← hpz]; rfl
  have HFI2 := Lib.hid hfi
  have HPZ2 := Lib.hid hpz
  have HDB2 := Lib.hid hdb
  clear hfi hpz hdb
  go_enter Tryz.func32, Tryz.ntmps32
  go_upto_region 1 with fail
  rw [HE.out.1, HE.out.2]
  obtain ⟨mm, hmm⟩ : ∃ v, (fi != pz) = v := ⟨_, rfl⟩
  have HMM := Lib.hid hmm
  have hmm2 : (!(fi == pz)) = mm := by rw [← hmm]; cases fi <;> cases pz <;> rfl
  go_wp2_with fail
  go_region_held3 (fun W => W.cell? ⟨pb, 1, none⟩ = some (.int .u32 f.pe) ∧ W.cell? ⟨pb, 2, none⟩ = some (.int .i64 f.ki)) (go_keep) (first | (go_at_call 56; (with_reducible refine (HFI.out _).mono ?_); rintro e wn ⟨rfl, rfl⟩))
  obtain ⟨w3, hw3⟩ : ∃ x, w2.drew = x := ⟨_, rfl⟩
  rw [hw3]
  have HB3 : Hid (Below w.heap.size w w3 ∧ Below w2.heap.size w2 w3) := Lib.hid (by rw [← hw3]; exact ⟨bTrans HB2.out (bDrew _), bDrew _⟩)
  clear hmm hmm2 E1 E2 E3 E4 d1 d2 dp hw3
  cases mm with
  | true =>
    have HF : Hid (chkF f = 2) := Lib.hid (chk_firm HK.out (by
      rw [HFI2.out, HPZ2.out]
      have h := HMM.out
      intro h2
      rw [h2] at h; simp at h))
    go_wp2
    go_ret
    exact ⟨ret_i HF.out.symm, HB3.out.1⟩
  | false =>
    have HFP : Hid (firmB f.ki = decide (f.pe = 0)) := Lib.hid (by
      rw [HFI2.out, HPZ2.out]
      have h := HMM.out
      simpa using h)
    obtain ⟨inb, hinb⟩ : ∃ v, decide (-25567 ≤ f.fr ∧ f.fr ≤ 84005) = v := ⟨_, rfl⟩
    rw [hinb] at HIN
    have HINB := Lib.hid hinb
    obtain ⟨k18, h18⟩ : ∃ v, ((f.ki : Int) == 18) = v := ⟨_, rfl⟩
    obtain ⟨f0, hf0⟩ : ∃ v, ((f.fr : Int) != 0) = v := ⟨_, rfl⟩
    have HK18 : Hid (k18 = true ↔ f.ki = 18) := Lib.hid (by rw [← h18]; simp)
    have HF0 : Hid (f0 = true ↔ f.fr ≠ 0) := Lib.hid (by rw [← hf0]; simp)
    obtain ⟨b5, hb5⟩ : ∃ v, (!inb || (k18 && f0)) = v := ⟨_, rfl⟩
    have HB5 := Lib.hid hb5
    have F := HKP.out w3 HB3.out.2
    have E2 : w3.cell? ⟨pb, 2, none⟩ = some (.int .i64 f.ki) := by have := F.c2; simpa using this
    have E3 : w3.cell? ⟨pb, 3, none⟩ = some (.int .i64 f.fr) := by have := F.c3; simpa using this
    have E4 : w3.cell? ⟨pb, 4, none⟩ = some (.int .i64 f.to) := by have := F.c4; simpa using this
    clear hb5 hinb F
    go_upto_region 5 with fail
    go_cut [31] from 18 to 31 (fun q wx => q = .bool b5 ∧ w3 = wx)
    case first =>
      go_wp2_with fail
      refine (HIN.out _).mono ?_
      rintro e wn ⟨rfl, rfl⟩
      cases inb with
      | false =>
        obtain rfl : b5 = true := by have := HB5.out; simpa using this.symm
        go_wp2
        go_meet
        exact ⟨rfl, rfl⟩
      | true =>
        cases k18 with
        | false =>
          obtain rfl : b5 = false := by have := HB5.out; simpa using this.symm
          go_wp2
          go_meet
          exact ⟨rfl, rfl⟩
        | true =>
          obtain rfl : b5 = f0 := by have := HB5.out; simpa using this.symm
          go_wp2
          go_meet
          exact ⟨rfl, rfl⟩
    case rest =>
    obtain ⟨rfl, rfl⟩ := hcut
    have HD5 : Hid (b5 = true ↔ (f.ki = 18 ∧ f.fr ≠ 0) ∨ f.fr < -25567 ∨ 84005 < f.fr) := Lib.hid (by
      rw [← HB5.out, ← HINB.out]
      have h1 := HK18.out
      have h2 := HF0.out
      simp only [Bool.or_eq_true, Bool.and_eq_true, Bool.not_eq_true', decide_eq_false_iff_not, h1, h2]
      omega)
    clear h18 hf0
    cases b5 with
    | true =>
      have HDE : Hid (daysE f = 15) := Lib.hid (by unfold daysE; rw [if_pos (HD5.out.1 rfl)])
      have HF : Hid (chkF f = 15) := Lib.hid (by rw [chk_days HK.out HFP.out (by rw [HDE.out]; omega), HDE.out])
      go_wp2
      go_ret
      exact ⟨ret_i HF.out.symm, HB3.out.1⟩
    | false =>
      have HN5 : Hid (¬ ((f.ki = 18 ∧ f.fr ≠ 0) ∨ f.fr < -25567 ∨ 84005 < f.fr)) := Lib.hid (fun h => by have := HD5.out.2 h; cases this)
      obtain ⟨t0, ht0⟩ : ∃ v, ((f.to : Int) != 0) = v := ⟨_, rfl⟩
      obtain ⟨le, hle⟩ : ∃ v, decide ((f.to : Int) ≤ f.fr) = v := ⟨_, rfl⟩
      have HT0 : Hid (t0 = true ↔ f.to ≠ 0) := Lib.hid (by rw [← ht0]; simp)
      have HLE : Hid (le = true ↔ f.to ≤ f.fr) := Lib.hid (by rw [← hle]; simp)
      obtain ⟨b7, hb7⟩ : ∃ v, (t0 && (!db || le)) = v := ⟨_, rfl⟩
      have HB7 := Lib.hid hb7
      clear hb7
      go_upto_region 7 with fail
      go_cut [47] from 32 to 47 (fun q wx => q = .bool b7 ∧ w3 = wx)
      case first =>
        cases t0 with
        | false =>
          obtain rfl : b7 = false := by have := HB7.out; simpa using this.symm
          go_wp2
          go_meet
          exact ⟨rfl, rfl⟩
        | true =>
          go_wp2_with fail
          refine (HDA.out _).mono ?_
          rintro e wn ⟨rfl, rfl⟩
          cases db with
          | false =>
            obtain rfl : b7 = true := by have := HB7.out; simpa using this.symm
            go_wp2
            go_meet
            exact ⟨rfl, rfl⟩
          | true =>
            obtain rfl : b7 = le := by have := HB7.out; simpa using this.symm
            go_wp2
            go_meet
            exact ⟨rfl, rfl⟩
      case rest =>
      obtain ⟨rfl, rfl⟩ := hcut
      have HD7 : Hid (b7 = true ↔ f.to ≠ 0 ∧ (daysB f.ki = false ∨ f.to ≤ f.fr)) := Lib.hid (by
        rw [← HB7.out, HDB2.out]
        have h1 := HT0.out
        have h2 := HLE.out
        simp only [Bool.or_eq_true, Bool.and_eq_true, Bool.not_eq_true', h1, h2])
      clear ht0 hle
      cases b7 with
      | true =>
        have HDE : Hid (daysE f = 24) := Lib.hid (by unfold daysE; rw [if_neg HN5.out, if_pos (HD7.out.1 rfl)])
        have HF : Hid (chkF f = 24) := Lib.hid (by rw [chk_days HK.out HFP.out (by rw [HDE.out]; omega), HDE.out])
        go_wp2
        go_ret
        exact ⟨ret_i HF.out.symm, HB3.out.1⟩
      | false =>
        have HN7 : Hid (¬ (f.to ≠ 0 ∧ (daysB f.ki = false ∨ f.to ≤ f.fr))) := Lib.hid (fun h => by have := HD7.out.2 h; cases this)
        by_cases h9 : 84006 < f.to
        · have d9 : decide ((84006 : Int) < f.to) = true := decide_eq_true h9
          have HDE : Hid (daysE f = 15) := Lib.hid (by unfold daysE; rw [if_neg HN5.out, if_neg HN7.out, if_pos h9])
          have HF : Hid (chkF f = 15) := Lib.hid (by rw [chk_days HK.out HFP.out (by rw [HDE.out]; omega), HDE.out])
          go_wp2
          go_ret
          exact ⟨ret_i HF.out.symm, HB3.out.1⟩
        · have d9 : decide ((84006 : Int) < f.to) = false := decide_eq_false h9
          have HRE := Lib.hid (chk_rest HK.out HFP.out (show daysE f = 0 by unfold daysE; rw [if_neg HN5.out, if_neg HN7.out, if_neg h9]))
          obtain ⟨cb, hcb⟩ : ∃ v, codeB f.ki (ls f.co) = v := ⟨_, rfl⟩
          obtain ⟨nb, hnb⟩ : ∃ v, decide (f.nu < lowN f.ki ∨ highN f.ki < f.nu) = v := ⟨_, rfl⟩
          obtain ⟨tb, htb⟩ : ∃ v, textB f.ki f.nu (ls f.tx) = v := ⟨_, rfl⟩
          rw [hcb] at HCO HRE
          rw [hnb] at HNU
          rw [htb] at HTX HRE
          have HNB := Lib.hid hnb
          clear hcb hnb htb E2 E3
          go_upto_region 11 with fail
          clear E4
          have F := HKP.out w3 HB3.out.2
          have F0 : w3.cell? ⟨pb, 0, none⟩ = some (.int .u32 f.id) := by have := F.c0; simpa using this
          have F1 : w3.cell? ⟨pb, 1, none⟩ = some (.int .u32 f.pe) := by have := F.c1; simpa using this
          have F2 : w3.cell? ⟨pb, 2, none⟩ = some (.int .i64 f.ki) := by have := F.c2; simpa using this
          have F3 : w3.cell? ⟨pb, 3, none⟩ = some (.int .i64 f.fr) := by have := F.c3; simpa using this
          have F4 : w3.cell? ⟨pb, 4, none⟩ = some (.int .i64 f.to) := by have := F.c4; simpa using this
          have F5 : w3.cell? ⟨pb, 5, none⟩ = some (.string f.co) := by have := F.c5; simpa using this
          have F6 : w3.cell? ⟨pb, 6, none⟩ = some (.int .i64 f.nu) := by have := F.c6; simpa using this
          have F7 : w3.cell? ⟨pb, 7, none⟩ = some (.string f.tx) := by have := F.c7; simpa using this
          clear F
          go_wp2_with fail
          refine (HCO.out _).mono ?_
          rintro e w4 ⟨rfl, hb4⟩
          have HB4 : Hid (Below w.heap.size w w4 ∧ Below w2.heap.size w2 w4) := Lib.hid ⟨bTrans HB3.out.1 hb4, bTrans HB3.out.2 hb4⟩
          clear hb4 F0 F1 F2 F3 F4 F5 F6 F7
          cases cb with
          | false =>
            have HF : Hid (chkF f = 12) := Lib.hid (by rw [HRE.out]; rfl)
            go_wp2
            go_ret
            exact ⟨ret_i HF.out.symm, HB4.out.1⟩
          | true =>
            have F := HKP.out w4 HB4.out.2
            have F0 : w4.cell? ⟨pb, 0, none⟩ = some (.int .u32 f.id) := by have := F.c0; simpa using this
            have F1 : w4.cell? ⟨pb, 1, none⟩ = some (.int .u32 f.pe) := by have := F.c1; simpa using this
            have F2 : w4.cell? ⟨pb, 2, none⟩ = some (.int .i64 f.ki) := by have := F.c2; simpa using this
            have F3 : w4.cell? ⟨pb, 3, none⟩ = some (.int .i64 f.fr) := by have := F.c3; simpa using this
            have F4 : w4.cell? ⟨pb, 4, none⟩ = some (.int .i64 f.to) := by have := F.c4; simpa using this
            have F5 : w4.cell? ⟨pb, 5, none⟩ = some (.string f.co) := by have := F.c5; simpa using this
            have F6 : w4.cell? ⟨pb, 6, none⟩ = some (.int .i64 f.nu) := by have := F.c6; simpa using this
            have F7 : w4.cell? ⟨pb, 7, none⟩ = some (.string f.tx) := by have := F.c7; simpa using this
            clear F
            go_wp2_with fail
            refine (HNU.out _).mono ?_
            rintro e w5 ⟨rfl, hb5⟩
            have HB5b : Hid (Below w.heap.size w w5 ∧ Below w2.heap.size w2 w5) := Lib.hid ⟨bTrans HB4.out.1 hb5, bTrans HB4.out.2 hb5⟩
            clear hb5 F0 F1 F2 F3 F4 F5 F6 F7
            cases nb with
            | true =>
              have HF : Hid (chkF f = 2) := Lib.hid (by rw [HRE.out, if_neg (by simp), if_pos (of_decide_eq_true HNB.out)])
              go_wp2
              go_ret
              exact ⟨ret_i HF.out.symm, HB5b.out.1⟩
            | false =>
              have HNN := Lib.hid (of_decide_eq_false HNB.out)
              have F := HKP.out w5 HB5b.out.2
              have F0 : w5.cell? ⟨pb, 0, none⟩ = some (.int .u32 f.id) := by have := F.c0; simpa using this
              have F1 : w5.cell? ⟨pb, 1, none⟩ = some (.int .u32 f.pe) := by have := F.c1; simpa using this
              have F2 : w5.cell? ⟨pb, 2, none⟩ = some (.int .i64 f.ki) := by have := F.c2; simpa using this
              have F3 : w5.cell? ⟨pb, 3, none⟩ = some (.int .i64 f.fr) := by have := F.c3; simpa using this
              have F4 : w5.cell? ⟨pb, 4, none⟩ = some (.int .i64 f.to) := by have := F.c4; simpa using this
              have F5 : w5.cell? ⟨pb, 5, none⟩ = some (.string f.co) := by have := F.c5; simpa using this
              have F6 : w5.cell? ⟨pb, 6, none⟩ = some (.int .i64 f.nu) := by have := F.c6; simpa using this
              have F7 : w5.cell? ⟨pb, 7, none⟩ = some (.string f.tx) := by have := F.c7; simpa using this
              clear F
              by_cases h4 : 4096 < f.tx.size
              · have d10 : decide ((4096 : Int) < (f.tx.size : Int)) = true := decide_eq_true (by omega)
                have HF : Hid (chkF f = 4) := Lib.hid (by rw [HRE.out, if_neg (by simp), if_neg HNN.out, if_pos h4])
                go_wp2
                go_ret
                exact ⟨ret_i HF.out.symm, HB5b.out.1⟩
              · have d10 : decide ((4096 : Int) < (f.tx.size : Int)) = false := decide_eq_false (by omega)
                have HTX2 := Lib.hid (HTX.out HNN.out)
                have HRF : Hid (chkF f = if tb = false then 3 else 0) := Lib.hid (by rw [HRE.out, if_neg (by simp), if_neg HNN.out, if_neg h4])
                go_wp2_with fail
                refine (HTX2.out _).mono ?_
                rintro e w6 ⟨rfl, hb6⟩
                have HB6 := Lib.hid (bTrans HB5b.out.1 hb6)
                clear hb6 F0 F1 F2 F3 F4 F5 F6 F7
                cases tb with
                | false =>
                  have HF : Hid (chkF f = 3) := Lib.hid (by rw [HRF.out]; rfl)
                  go_wp2
                  go_ret
                  exact ⟨ret_i HF.out.symm, HB6.out⟩
                | true =>
                  have HF : Hid (chkF f = 0) := Lib.hid (by rw [HRF.out]; rfl)
                  go_wp2
                  go_ret
                  exact ⟨ret_i HF.out.symm, HB6.out⟩
end Go.Proofs.YtdpejolpjhlibaaGreatDoor
