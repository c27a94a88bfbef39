/- fact.Check and Store.Add at facts with texts of any size. (Out of Ltb.) -/
import Derived.Test.YtmngghglcgmkeaaGreatDoorChks
import Derived.Test.YtmngghglcgmkeaaGreatDoorOp9
import Derived.Test.YtmngghglcgmkeaaGreatDoorAdds
namespace Go.Proofs.YtmngghglcgmkeaaGreatDoor
open Go.RowKit Go.Sort

set_option linter.unusedVariables false in
set_option maxHeartbeats 4000000 in
theorem fc_isNameW (s : ByteArray) (w : World) (hs : s.size ≤ 9223372036854775807) : Calls Tryz.prog 78 #[.string s] w fun e w' => e = .returned (.bool (nameB (ls s))) ∧ w = w' := by
  go_enter Tryz.func78, Tryz.ntmps78
  go_wp2
  go_loop [3, 4, 7] (fun _ _ iv => ∃ k : Nat, k ≤ s.size ∧ iv = .int .i64 k ∧ Hid (((ls s).take k).all nameC = true)) (fun _ _ iv => s.size - (intOf iv).toNat)
  case atStart => exact ⟨0, Nat.zero_le _, rfl, Lib.hid rfl⟩
  case round =>
    obtain ⟨k, hk, rfl, HP⟩ := hrel
    by_cases hlt : k < s.size
    · have hix := run_at (P := Tryz.prog) 9 Tryz.underlying9 s k hlt
      have hbd := byteAt_bd s k
      obtain ⟨b, hb, hcb⟩ := byte_some hlt
      have HB := Lib.hid hb
      have HC := Lib.hid hcb
      clear hb hcb
      generalize byteAt s k = c at *
      have hcl : (c < 45) ∨ (c = 45) ∨ (c = 46) ∨ (c = 47) ∨ (48 ≤ c ∧ c ≤ 57) ∨ (58 ≤ c ∧ c < 95) ∨ (c = 95) ∨ (c = 96) ∨ (97 ≤ c ∧ c ≤ 122) ∨ (122 < c) := by omega
      rcases hcl with hc | hc | hc | hc | hc | hc | hc | hc | hc | hc
      · have HX : Hid (nameC b = false) := Lib.hid (by have := HC.out; unfold nameC; simp; omega)
        have t1 : c < 97 := by omega
        have t2 : ¬ 122 < c := by omega
        have t3 : c < 48 := by omega
        have t4 : ¬ 57 < c := by omega
        have t5 : (c == 46) = false := beq_eq_false_iff_ne.2 (by omega)
        have t5n : (c != 46) = true := bne_iff_ne.2 (by omega)
        have t6 : (c == 95) = false := beq_eq_false_iff_ne.2 (by omega)
        have t6n : (c != 95) = true := bne_iff_ne.2 (by omega)
        have t7 : (c == 45) = false := beq_eq_false_iff_ne.2 (by omega)
        have t7n : (c != 45) = true := bne_iff_ne.2 (by omega)
        have HF := Lib.hid (nameB_bad (all_bad HB.out HX.out))
        go_wp2
        go_ret
        exact ⟨ret_b HF.out.symm, rfl⟩
      · have HX : Hid (nameC b = true) := Lib.hid (by have := HC.out; unfold nameC; simp; omega)
        subst hc
        have HN := Lib.hid (all_more HP.out HB.out HX.out)
        go_wp2
        go_round
        case rel => exact ⟨k + 1, by omega, by go_num, HN⟩
        case measure => simp [intOf]; omega
      · have HX : Hid (nameC b = true) := Lib.hid (by have := HC.out; unfold nameC; simp; omega)
        subst hc
        have HN := Lib.hid (all_more HP.out HB.out HX.out)
        go_wp2
        go_round
        case rel => exact ⟨k + 1, by omega, by go_num, HN⟩
        case measure => simp [intOf]; omega
      · have HX : Hid (nameC b = false) := Lib.hid (by have := HC.out; unfold nameC; simp; omega)
        subst hc
        have HF := Lib.hid (nameB_bad (all_bad HB.out HX.out))
        go_wp2
        go_ret
        exact ⟨ret_b HF.out.symm, rfl⟩
      · have HX : Hid (nameC b = true) := Lib.hid (by have := HC.out; unfold nameC; simp; omega)
        have t1 : c < 97 := by omega
        have t2 : ¬ 122 < c := by omega
        have t3 : ¬ c < 48 := by omega
        have t4 : ¬ 57 < c := by omega
        have t5 : (c == 46) = false := beq_eq_false_iff_ne.2 (by omega)
        have t5n : (c != 46) = true := bne_iff_ne.2 (by omega)
        have t6 : (c == 95) = false := beq_eq_false_iff_ne.2 (by omega)
        have t6n : (c != 95) = true := bne_iff_ne.2 (by omega)
        have t7 : (c == 45) = false := beq_eq_false_iff_ne.2 (by omega)
        have t7n : (c != 45) = true := bne_iff_ne.2 (by omega)
        have HN := Lib.hid (all_more HP.out HB.out HX.out)
        go_wp2
        go_round
        case rel => exact ⟨k + 1, by omega, by go_num, HN⟩
        case measure => simp [intOf]; omega
      · have HX : Hid (nameC b = false) := Lib.hid (by have := HC.out; unfold nameC; simp; omega)
        have t1 : c < 97 := by omega
        have t2 : ¬ 122 < c := by omega
        have t3 : ¬ c < 48 := by omega
        have t4 : 57 < c := by omega
        have t5 : (c == 46) = false := beq_eq_false_iff_ne.2 (by omega)
        have t5n : (c != 46) = true := bne_iff_ne.2 (by omega)
        have t6 : (c == 95) = false := beq_eq_false_iff_ne.2 (by omega)
        have t6n : (c != 95) = true := bne_iff_ne.2 (by omega)
        have t7 : (c == 45) = false := beq_eq_false_iff_ne.2 (by omega)
        have t7n : (c != 45) = true := bne_iff_ne.2 (by omega)
        have HF := Lib.hid (nameB_bad (all_bad HB.out HX.out))
        go_wp2
        go_ret
        exact ⟨ret_b HF.out.symm, rfl⟩
      · have HX : Hid (nameC b = true) := Lib.hid (by have := HC.out; unfold nameC; simp; omega)
        subst hc
        have HN := Lib.hid (all_more HP.out HB.out HX.out)
        go_wp2
        go_round
        case rel => exact ⟨k + 1, by omega, by go_num, HN⟩
        case measure => simp [intOf]; omega
      · have HX : Hid (nameC b = false) := Lib.hid (by have := HC.out; unfold nameC; simp; omega)
        subst hc
        have HF := Lib.hid (nameB_bad (all_bad HB.out HX.out))
        go_wp2
        go_ret
        exact ⟨ret_b HF.out.symm, rfl⟩
      · have HX : Hid (nameC b = true) := Lib.hid (by have := HC.out; unfold nameC; simp; omega)
        have t1 : ¬ c < 97 := by omega
        have t2 : ¬ 122 < c := by omega
        have t3 : ¬ c < 48 := by omega
        have t4 : 57 < c := by omega
        have t5 : (c == 46) = false := beq_eq_false_iff_ne.2 (by omega)
        have t5n : (c != 46) = true := bne_iff_ne.2 (by omega)
        have t6 : (c == 95) = false := beq_eq_false_iff_ne.2 (by omega)
        have t6n : (c != 95) = true := bne_iff_ne.2 (by omega)
        have t7 : (c == 45) = false := beq_eq_false_iff_ne.2 (by omega)
        have t7n : (c != 45) = true := bne_iff_ne.2 (by omega)
        have HN := Lib.hid (all_more HP.out HB.out HX.out)
        go_wp2
        go_round
        case rel => exact ⟨k + 1, by omega, by go_num, HN⟩
        case measure => simp [intOf]; omega
      · have HX : Hid (nameC b = false) := Lib.hid (by have := HC.out; unfold nameC; simp; omega)
        have t1 : ¬ c < 97 := by omega
        have t2 : 122 < c := by omega
        have t3 : ¬ c < 48 := by omega
        have t4 : 57 < c := by omega
        have t5 : (c == 46) = false := beq_eq_false_iff_ne.2 (by omega)
        have t5n : (c != 46) = true := bne_iff_ne.2 (by omega)
        have t6 : (c == 95) = false := beq_eq_false_iff_ne.2 (by omega)
        have t6n : (c != 95) = true := bne_iff_ne.2 (by omega)
        have t7 : (c == 45) = false := beq_eq_false_iff_ne.2 (by omega)
        have t7n : (c != 45) = true := bne_iff_ne.2 (by omega)
        have HF := Lib.hid (nameB_bad (all_bad HB.out HX.out))
        go_wp2
        go_ret
        exact ⟨ret_b HF.out.symm, rfl⟩
    · obtain rfl : k = s.size := by omega
      have HF : Hid ((ls s).all nameC = true) := Lib.hid (by have := HP.out; rwa [List.take_of_length_le (by rw [ls_len]; omega)] at this)
      by_cases h0 : s.size = 0
      · have he : s.toList.isEmpty = true := by rw [isEmpty_ls, (nil_iff s).2 h0]; rfl
        have HR : Hid (nameB (ls s) = false) := Lib.hid (by rw [(nil_iff s).2 h0]; rfl)
        go_wp2
        go_ret
        exact ⟨ret_b HR.out.symm, rfl⟩
      have he : s.toList.isEmpty = false := by rw [isEmpty_ls]; simpa using fun h => h0 ((nil_iff s).1 h)
      by_cases h1 : ls s = [45]
      · have hd : (s.toList == [45]) = true := by rw [beq_ls]; exact decide_eq_true h1
        have HR : Hid (nameB (ls s) = false) := Lib.hid (by rw [h1]; rfl)
        clear h1
        go_wp2
        go_ret
        exact ⟨ret_b HR.out.symm, rfl⟩
      have hd : (s.toList == [45]) = false := by rw [beq_ls]; exact decide_eq_false h1
      have HR : Hid (nameB (ls s) = decide (s.size ≤ 32)) := Lib.hid (by
        rw [nameB_of HF.out, ← ls_len]
        have e1 : (ls s == []) = false := by simpa using fun h => h0 ((nil_iff s).1 h)
        have e2 : (ls s == [45]) = false := by simpa using h1
        rw [e1, e2]; rfl)
      clear h1
      by_cases hq : (s.size : Int) ≤ 32
      · go_wp2
        go_ret
        exact ⟨ret_b (by rw [HR.out]; simp; omega), rfl⟩
      · go_wp2
        go_ret
        exact ⟨ret_b (by rw [HR.out]; simp; omega), rfl⟩
theorem fc_eitherW (s : ByteArray) (w : World) (hs : s.size ≤ 9223372036854775807) : Calls Tryz.prog 77 #[.string s] w fun e w' => e = .returned (.bool (ls s == [] || nameB (ls s))) ∧ w = w' := by
  have HN := Lib.hid (fun W => fc_isNameW s W hs)
  cases he : (ls s == []) with
  | true =>
    have h1 : s.toList.isEmpty = true := by rw [isEmpty_ls]; exact he
    clear he
    go_enter Tryz.func77, Tryz.ntmps77
    go_wp2
    go_ret
    exact ⟨rfl, rfl⟩
  | false =>
    have h1 : s.toList.isEmpty = false := by rw [isEmpty_ls]; exact he
    clear he
    go_enter Tryz.func77, Tryz.ntmps77
    go_wp2_with fail
    refine (HN.out _).mono ?_
    rintro e w1 ⟨rfl, rfl⟩
    go_wp2
    go_ret
    exact ⟨rfl, rfl⟩
structure CodeOkW (k : Int) (n : Nat) : Prop where
  enter : ∀ args w, (callFunc n args).run Tryz.prog w = .ok (.enter n args) w
  calls : ∀ s W, s.size ≤ 9223372036854775807 → Calls Tryz.prog n #[.string s] W fun e w' => e = .returned (.bool (codeB k (ls s))) ∧ Below W.heap.size W w'
theorem codeW_1 : CodeOkW 1 83 := ⟨fun _ _ => by kernel_rfl, fun s W _ => same_below (fc_empty s W)⟩
theorem codeW_2 : CodeOkW 2 83 := ⟨fun _ _ => by kernel_rfl, fun s W _ => same_below (fc_empty s W)⟩
theorem codeW_3 : CodeOkW 3 83 := ⟨fun _ _ => by kernel_rfl, fun s W _ => same_below (fc_empty s W)⟩
theorem codeW_4 : CodeOkW 4 83 := ⟨fun _ _ => by kernel_rfl, fun s W _ => same_below (fc_empty s W)⟩
theorem codeW_5 : CodeOkW 5 83 := ⟨fun _ _ => by kernel_rfl, fun s W _ => same_below (fc_empty s W)⟩
theorem codeW_6 : CodeOkW 6 77 := ⟨fun _ _ => by kernel_rfl, fun s W h => same_below (fc_eitherW s W h)⟩
theorem codeW_7 : CodeOkW 7 89 := ⟨fun _ _ => by kernel_rfl, fun s W _ => grows_below (fc_absence s W)⟩
theorem codeW_8 : CodeOkW 8 78 := ⟨fun _ _ => by kernel_rfl, fun s W h => same_below (fc_isNameW s W h)⟩
theorem codeW_9 : CodeOkW 9 78 := ⟨fun _ _ => by kernel_rfl, fun s W h => same_below (fc_isNameW s W h)⟩
theorem codeW_10 : CodeOkW 10 78 := ⟨fun _ _ => by kernel_rfl, fun s W h => same_below (fc_isNameW s W h)⟩
theorem codeW_11 : CodeOkW 11 83 := ⟨fun _ _ => by kernel_rfl, fun s W _ => same_below (fc_empty s W)⟩
theorem codeW_12 : CodeOkW 12 78 := ⟨fun _ _ => by kernel_rfl, fun s W h => same_below (fc_isNameW s W h)⟩
theorem codeW_13 : CodeOkW 13 83 := ⟨fun _ _ => by kernel_rfl, fun s W _ => same_below (fc_empty s W)⟩
theorem codeW_14 : CodeOkW 14 78 := ⟨fun _ _ => by kernel_rfl, fun s W h => same_below (fc_isNameW s W h)⟩
theorem codeW_15 : CodeOkW 15 78 := ⟨fun _ _ => by kernel_rfl, fun s W h => same_below (fc_isNameW s W h)⟩
theorem codeW_16 : CodeOkW 16 83 := ⟨fun _ _ => by kernel_rfl, fun s W _ => same_below (fc_empty s W)⟩
theorem codeW_17 : CodeOkW 17 83 := ⟨fun _ _ => by kernel_rfl, fun s W _ => same_below (fc_empty s W)⟩
theorem codeW_18 : CodeOkW 18 83 := ⟨fun _ _ => by kernel_rfl, fun s W _ => same_below (fc_empty s W)⟩
theorem rule_partsW (k : Int) (h1 : 1 ≤ k) (h2 : k ≤ 18) : ∃ (nm : ByteArray) (cf tf : Nat), ruleV k = #[.string nm, .bool (firmB k), .bool (daysB k), .func (.func cf) #[] #[], .int .i64 (lowN k), .int .i64 (highN k), .func (.func tf) #[] #[]] ∧ CodeOkW k cf ∧ TextOk k tf := by
  have : k = 1 ∨ k = 2 ∨ k = 3 ∨ k = 4 ∨ k = 5 ∨ k = 6 ∨ k = 7 ∨ k = 8 ∨ k = 9 ∨ k = 10 ∨ k = 11 ∨ k = 12 ∨ k = 13 ∨ k = 14 ∨ k = 15 ∨ k = 16 ∨ k = 17 ∨ k = 18 := by omega
  rcases this with rfl | rfl | rfl | rfl | rfl | rfl | rfl | rfl | rfl | rfl | rfl | rfl | rfl | rfl | rfl | rfl | rfl | rfl
  · exact ⟨_, _, _, rfl, codeW_1, text_1⟩
  · exact ⟨_, _, _, rfl, codeW_2, text_2⟩
  · exact ⟨_, _, _, rfl, codeW_3, text_3⟩
  · exact ⟨_, _, _, rfl, codeW_4, text_4⟩
  · exact ⟨_, _, _, rfl, codeW_5, text_5⟩
  · exact ⟨_, _, _, rfl, codeW_6, text_6⟩
  · exact ⟨_, _, _, rfl, codeW_7, text_7⟩
  · exact ⟨_, _, _, rfl, codeW_8, text_8⟩
  · exact ⟨_, _, _, rfl, codeW_9, text_9⟩
  · exact ⟨_, _, _, rfl, codeW_10, text_10⟩
  · exact ⟨_, _, _, rfl, codeW_11, text_11⟩
  · exact ⟨_, _, _, rfl, codeW_12, text_12⟩
  · exact ⟨_, _, _, rfl, codeW_13, text_13⟩
  · exact ⟨_, _, _, rfl, codeW_14, text_14⟩
  · exact ⟨_, _, _, rfl, codeW_15, text_15⟩
  · exact ⟨_, _, _, rfl, codeW_16, text_16⟩
  · exact ⟨_, _, _, rfl, codeW_17, text_17⟩
  · exact ⟨_, _, _, rfl, codeW_18, text_18⟩
theorem codeB_small {k : Int} {s : ByteArray} (h : codeB k (ls s) = true) : s.size ≤ 1000000 := by
  have hl := ls_len s
  have hn : ∀ l : List UInt8, nameB l = true → l.length ≤ 32 := fun l h => by
    unfold nameB at h
    simp only [Bool.and_eq_true, decide_eq_true_eq] at h
    exact h.2
  have hz : ∀ l : List UInt8, (l == []) = true → l.length ≤ 32 := fun l h => by
    have : l = [] := by simpa using h
    rw [this]; exact Nat.zero_le _
  unfold codeB at h
  split at h
  · rw [Bool.or_eq_true] at h
    rcases h with h | h
    · have := hz _ h; omega
    · have := hn _ h; omega
  · split at h
    · unfold absenceB at h
      rw [decide_eq_true_eq] at h
      rcases h with h | h | h | h <;> rw [h] at hl <;> simp at hl <;> omega
    · split at h
      · have := hn _ h; omega
      · have := hz _ h; omega
theorem fit_of {f : Fa} (h : FitW f) (h1 : f.co.size ≤ 1000000) (h2 : f.tx.size ≤ 1000000) : Fit f := ⟨h.id, h.pe, h.ki, h.fr, h.tO, h.nu, h1, h2⟩
set_option maxHeartbeats 4000000 in
set_option maxRecDepth 100000 in
theorem fc_CheckW (f : Fa) (w : World) (hf : FitW f) (hT : Tb w) : Calls Tryz.prog 27 #[valF f] w fun e w' => e = .returned (.int .i64 (chkF f)) ∧ Below w.heap.size w w' := by
  have hki := hf.ki
  have HF := Lib.hid hf
  have HT := Lib.hid hT
  clear hf hT
  obtain ⟨fb, hfb⟩ : ∃ x, w.heap.size = x := ⟨_, rfl⟩
  obtain ⟨wa, hwa⟩ : ∃ x, w.alloc (.cells #[.int .u32 f.id, .int .u32 f.pe, .int .i64 f.ki, .int .i64 f.fr, .int .i64 f.to, .string f.co, .int .i64 f.nu, .string f.tx] 26) = x := ⟨_, rfl⟩
  have hb0 : Bk fb 26 #[.int .u32 f.id, .int .u32 f.pe, .int .i64 f.ki, .int .i64 f.fr, .int .i64 f.to, .string f.co, .int .i64 f.nu, .string f.tx] wa := by rw [← hwa, ← hfb]; exact Bk.new _ _ _
  have hBA : Below w.heap.size w wa := by rw [← hwa]; exact bAlloc w _
  have HB0 := Lib.hid hb0
  have HBA := Lib.hid hBA
  have HTA : Hid (Tb wa) := Lib.hid (HT.out.below hBA)
  unfold valF
  go_enter Tryz.func27, Tryz.ntmps27
  have A2 : wa.cell? ⟨fb, 2, none⟩ = some (.int .i64 f.ki) := hb0.cell 2
  clear hb0 hBA
  go_upto_region 1 with fail
  clear hwa hfb
  go_wp2_with fail
  refine (fc_known _ _).mono ?_
  rintro e w1 ⟨rfl, rfl⟩
  by_cases hk : 1 ≤ f.ki ∧ f.ki ≤ 18
  · rw [decide_eq_true hk]
    obtain ⟨nm, cf, tf, hrv, hco, htx⟩ := rule_partsW f.ki hk.1 hk.2
    have HRV := Lib.hid hrv
    have HCO := Lib.hid hco
    have HTX := Lib.hid htx
    have HRA := Lib.hid (fun W => rules_at f.ki hk.1 hk.2 W)
    rw [hrv] at HRA
    have HK := Lib.hid hk
    clear hrv hco htx hk
    go_upto_region 3 with fail
    obtain ⟨RA, hRA⟩ : ∃ x, rulesA = x := ⟨_, rfl⟩
    rw [hRA] at HRA
    have HRU : Hid (∀ W, Calls Tryz.prog 53 #[] W fun e w' => e = .returned (.agg RA) ∧ Below W.heap.size W w') := Lib.hid (fun W => by have := fc_rules W; rw [hRA] at this; exact this)
    clear hRA
    go_cut [3] from 9 to 12 (fun pv wx => ∃ rb : Nat, pv = .pointer (some ⟨rb, 0, none⟩) ∧ Hid (Bk rb 114 #[.string nm, .bool (firmB f.ki), .bool (daysB f.ki), .func (.func cf) #[] #[], .int .i64 (lowN f.ki), .int .i64 (highN f.ki), .func (.func tf) #[] #[]] wx) ∧ Hid (Below wa.heap.size wa wx))
    case first =>
      have hix := HRA.out
      generalize firmB f.ki = fi at *
      generalize daysB f.ki = da at *
      generalize lowN f.ki = lo at *
      generalize highN f.ki = hi at *
      have KK : Hid (∀ W w', Grows wa W → Below W.heap.size W w' → w'.cell? ⟨fb, 2, none⟩ = some (.int .i64 f.ki)) := Lib.hid (fun W w' hW hb => by
        have h1 := HB0.out.grows hW
        have h2 : Bk fb 26 #[.int .u32 f.id, .int .u32 f.pe, .int .i64 f.ki, .int .i64 f.fr, .int .i64 f.to, .string f.co, .int .i64 f.nu, .string f.tx] w' := (hb.block fb h1.lt).trans h1
        exact h2.cell 2)
      have hlt := HB0.out.lt
      have hne : ¬ fb = wa.heap.size := by omega
      have HGD : Hid (Grows wa wa.drew) := Lib.hid (Grows.of_drew wa)
      have HGA : Hid (∀ o, Grows wa (wa.alloc o).drew) := Lib.hid (fun o => (Grows.of_alloc wa o).drew)
      have HNB : Hid (∀ w4, Below (wa.alloc (.cells #[.string ⟨#[]⟩, .bool false, .bool false, .nilFunc, .int .i64 0, .int .i64 0, .nilFunc] 114)).drew.heap.size (wa.alloc (.cells #[.string ⟨#[]⟩, .bool false, .bool false, .nilFunc, .int .i64 0, .int .i64 0, .nilFunc] 114)).drew w4 → Bk wa.heap.size 114 #[.string ⟨#[]⟩, .bool false, .bool false, .nilFunc, .int .i64 0, .int .i64 0, .nilFunc] w4 ∧ Below wa.heap.size wa w4) := Lib.hid (fun w4 h => ⟨(h.block wa.heap.size (size_new wa _)).trans (new_block wa _), bTrans (HGA.out _).below h⟩)
      have AA : ∀ o, (wa.alloc o).drew.cell? ⟨fb, 2, none⟩ = some (.int .i64 f.ki) := fun o => (HGA.out o).cell hlt A2
      go_region_with (first | (go_at_call 53; with_reducible refine (HRU.out wa.drew).mono ?_; rintro e' w4 ⟨rfl, hbA⟩; have A2 := KK.out _ _ HGD.out hbA; have hlt := cell_lt A2) | (go_at_call 53; refine (HRU.out _).mono ?_; rintro e' w4 ⟨rfl, hbB⟩; have z0 := (HNB.out _ hbB).1.cell 0; have z1 := (HNB.out _ hbB).1.cell 1; have z2 := (HNB.out _ hbB).1.cell 2; have z3 := (HNB.out _ hbB).1.cell 3; have z4 := (HNB.out _ hbB).1.cell 4; have z5 := (HNB.out _ hbB).1.cell 5; have z6 := (HNB.out _ hbB).1.cell 6; have y0 := (HNB.out _ hbB).1.frozen 0; have y1 := (HNB.out _ hbB).1.frozen 1; have y2 := (HNB.out _ hbB).1.frozen 2; have y3 := (HNB.out _ hbB).1.frozen 3; have y4 := (HNB.out _ hbB).1.frozen 4; have y5 := (HNB.out _ hbB).1.frozen 5; have y6 := (HNB.out _ hbB).1.frozen 6; have A2 := KK.out _ _ (HGA.out _) hbB; have hlt := cell_lt A2))
      all_goals (
        clear KK HRU HRA HRV
        go_wp2_with fail
        go_meet
        first
          | (have hr := ruleNew hbA nm fi da cf tf lo hi; refine ⟨w4.heap.size, rfl, Lib.hid hr.1, Lib.hid hr.2⟩)
          | (have hr := rule7 (HNB.out _ hbB).1 (HNB.out _ hbB).2 (Nat.le_refl _) nm fi da cf tf lo hi; refine ⟨wa.heap.size, rfl, Lib.hid hr.1, Lib.hid hr.2⟩))
    case rest =>
    obtain ⟨rb, rfl, HRB, HBC⟩ := hcut
    obtain ⟨w5, rfl⟩ : ∃ w5 : World, w5 = wc := ⟨_, rfl⟩
    have HDY := Lib.hid (fun W => fc_days f nm (firmB f.ki) cf tf (lowN f.ki) (highN f.ki) W)
    have hlh := lowhigh f.ki
    have HFI : Hid (∃ x, firmB f.ki = x) := Lib.hid ⟨_, rfl⟩
    have HCH : Hid (chkF f = if firmB f.ki ≠ decide (f.pe = 0) then 2 else if daysE f ≠ 0 then daysE f else if codeB f.ki (ls f.co) = false then 12 else if f.nu < lowN f.ki ∨ highN f.ki < f.nu then 2 else if 4096 < f.tx.size then 4 else if textB f.ki f.nu (ls f.tx) = false then 3 else 0) := Lib.hid (if_neg (by have := HK.out; omega))
    clear A2 HFI
    obtain ⟨fi, hfi⟩ : ∃ x, firmB f.ki = x := ⟨_, rfl⟩
    obtain ⟨da, hda⟩ : ∃ x, daysB f.ki = x := ⟨_, rfl⟩
    obtain ⟨lo, hlo⟩ : ∃ x, lowN f.ki = x := ⟨_, rfl⟩
    obtain ⟨hi, hhi⟩ : ∃ x, highN f.ki = x := ⟨_, rfl⟩
    obtain ⟨de, hde⟩ : ∃ x, daysE f = x := ⟨_, rfl⟩
    rw [hfi, hda, hlo, hhi] at HRB
    rw [hfi, hlo, hhi, hda, hde] at HDY
    rw [hfi, hlo, hhi, hde] at HCH
    rw [hlo, hhi] at hlh
    clear hfi hda hlo hhi hde HRV HRA HRU
    have HM : Hid (Bk fb 26 #[.int .u32 f.id, .int .u32 f.pe, .int .i64 f.ki, .int .i64 f.fr, .int .i64 f.to, .string f.co, .int .i64 f.nu, .string f.tx] w5 ∧ Bk rb 114 #[.string nm, .bool (fi), .bool (da), .func (.func cf) #[] #[], .int .i64 (lo), .int .i64 (hi), .func (.func tf) #[] #[]] w5 ∧ Below wa.heap.size wa w5) := Lib.hid ⟨(HBC.out.block fb HB0.out.lt).trans HB0.out, HRB.out, HBC.out⟩
    have HBE := Lib.hid (fun W (h : Below w5.heap.size w5 W) => bTrans HBA.out (bTrans HBC.out h))
    have HKEEP : Hid (∀ W, Below w5.heap.size w5 W → Bk fb 26 #[.int .u32 f.id, .int .u32 f.pe, .int .i64 f.ki, .int .i64 f.fr, .int .i64 f.to, .string f.co, .int .i64 f.nu, .string f.tx] W ∧ Bk rb 114 #[.string nm, .bool (fi), .bool (da), .func (.func cf) #[] #[], .int .i64 (lo), .int .i64 (hi), .func (.func tf) #[] #[]] W ∧ Below w5.heap.size w5 W) := Lib.hid (fun W h => ⟨(h.block fb HM.out.1.lt).trans HM.out.1, (h.block rb HM.out.2.1.lt).trans HM.out.2.1, h⟩)
    have HM0 := Lib.hid (HKEEP.out w5 (Below.refl _ _))
    clear HM HRB
    have F1 : w5.cell? ⟨fb, 1, none⟩ = some (.int .u32 f.pe) := HM0.out.1.cell 1
    have R1 : w5.cell? ⟨rb, 1, none⟩ = some (.bool (fi)) := HM0.out.2.1.cell 1
    by_cases hfm : fi ≠ decide (f.pe = 0)
    · have L : Hid (chkF f = 2) := Lib.hid (by rw [HCH.out, if_pos hfm])
      have bf : (fi == (f.pe == 0)) = false := beq_eq_false_iff_ne.2 hfm
      clear hfm
      go_wp2
      go_ret
      exact ⟨ret_i L.out.symm, HBE.out _ (Below.refl _ _)⟩
    have HC1 : Hid (chkF f = if de ≠ 0 then de else if codeB f.ki (ls f.co) = false then 12 else if f.nu < lo ∨ hi < f.nu then 2 else if 4096 < f.tx.size then 4 else if textB f.ki f.nu (ls f.tx) = false then 3 else 0) := Lib.hid (by rw [HCH.out, if_neg hfm])
    have bf : (fi == (f.pe == 0)) = true := beq_iff_eq.2 (Decidable.not_not.1 hfm)
    clear hfm
    go_upto_region 6 with fail
    have F0 : w5.cell? ⟨fb, 0, none⟩ = some (.int .u32 f.id) := HM0.out.1.cell 0
    have F2 : w5.cell? ⟨fb, 2, none⟩ = some (.int .i64 f.ki) := HM0.out.1.cell 2
    have F3 : w5.cell? ⟨fb, 3, none⟩ = some (.int .i64 f.fr) := HM0.out.1.cell 3
    have F4 : w5.cell? ⟨fb, 4, none⟩ = some (.int .i64 f.to) := HM0.out.1.cell 4
    have F5 : w5.cell? ⟨fb, 5, none⟩ = some (.string f.co) := HM0.out.1.cell 5
    have F6 : w5.cell? ⟨fb, 6, none⟩ = some (.int .i64 f.nu) := HM0.out.1.cell 6
    have F7 : w5.cell? ⟨fb, 7, none⟩ = some (.string f.tx) := HM0.out.1.cell 7
    have R0 : w5.cell? ⟨rb, 0, none⟩ = some (.string nm) := HM0.out.2.1.cell 0
    have R2 : w5.cell? ⟨rb, 2, none⟩ = some (.bool (da)) := HM0.out.2.1.cell 2
    have R3 : w5.cell? ⟨rb, 3, none⟩ = some (.func (.func cf) #[] #[]) := HM0.out.2.1.cell 3
    have R4 : w5.cell? ⟨rb, 4, none⟩ = some (.int .i64 (lo)) := HM0.out.2.1.cell 4
    have R5 : w5.cell? ⟨rb, 5, none⟩ = some (.int .i64 (hi)) := HM0.out.2.1.cell 5
    have R6 : w5.cell? ⟨rb, 6, none⟩ = some (.func (.func tf) #[] #[]) := HM0.out.2.1.cell 6
    unfold valF at HDY
    go_wp2_with fail
    refine (HDY.out _).mono ?_
    rintro e w6 ⟨rfl, hb6⟩
    have HM1 := Lib.hid (HKEEP.out w6 hb6)
    clear F0 F1 F2 F3 F4 F5 F6 F7 R0 R1 R2 R3 R4 R5 R6 hb6 bf
    by_cases hde : de = 0
    · have bd : (de != 0) = false := by rw [hde]; rfl
      have HC2 : Hid (chkF f = if codeB f.ki (ls f.co) = false then 12 else if f.nu < lo ∨ hi < f.nu then 2 else if 4096 < f.tx.size then 4 else if textB f.ki f.nu (ls f.tx) = false then 3 else 0) := Lib.hid (by rw [HC1.out, if_neg (fun h => h hde)])
      clear hde
      have F5 : w6.cell? ⟨fb, 5, none⟩ = some (.string f.co) := HM1.out.1.cell 5
      have R3 : w6.cell? ⟨rb, 3, none⟩ = some (.func (.func cf) #[] #[]) := HM1.out.2.1.cell 3
      have hec := HCO.out.enter
      go_upto_region 9 with fail
      go_cut [25] from 26 to 31 (fun q wx => q = .bool (!codeB f.ki (ls f.co)) ∧ Hid (Below w5.heap.size w5 wx))
      case first =>
        have HCC := Lib.hid (HCO.out.calls f.co)
        have hfco := HF.out.cO
        generalize codeB f.ki (ls f.co) = cb at *
        go_wp2_with fail
        refine (HCC.out _ hfco).mono ?_
        rintro e w7 ⟨rfl, hb7⟩
        have HB7 := Lib.hid (bTrans HM1.out.2.2 hb7)
        clear hb7
        go_wp2
        go_meet
        exact ⟨rfl, HB7⟩
      case rest =>
      obtain ⟨rfl, HB7⟩ := hcut
      obtain ⟨w7, rfl⟩ : ∃ w7 : World, w7 = wc := ⟨_, rfl⟩
      have HM2 := Lib.hid (HKEEP.out w7 HB7.out)
      clear F5 R3 hec
      have F6 : w7.cell? ⟨fb, 6, none⟩ = some (.int .i64 f.nu) := HM2.out.1.cell 6
      have F7 : w7.cell? ⟨fb, 7, none⟩ = some (.string f.tx) := HM2.out.1.cell 7
      have R4 : w7.cell? ⟨rb, 4, none⟩ = some (.int .i64 (lo)) := HM2.out.2.1.cell 4
      have R5 : w7.cell? ⟨rb, 5, none⟩ = some (.int .i64 (hi)) := HM2.out.2.1.cell 5
      obtain ⟨cb, hcb⟩ : ∃ x, codeB f.ki (ls f.co) = x := ⟨_, rfl⟩
      have HC3 : Hid (chkF f = if cb = false then 12 else if f.nu < lo ∨ hi < f.nu then 2 else if 4096 < f.tx.size then 4 else if textB f.ki f.nu (ls f.tx) = false then 3 else 0) := Lib.hid (by rw [HC2.out, hcb])
      rw [hcb]
      have HCBE := Lib.hid hcb
      clear hcb
      cases cb with
      | false =>
        have L : Hid (chkF f = 12) := Lib.hid (by rw [HC3.out]; rfl)
        go_wp2
        go_ret
        exact ⟨ret_i L.out.symm, HBE.out _ HB7.out⟩
      | true =>
        by_cases hlo : f.nu < lo
        · have L : Hid (chkF f = 2) := Lib.hid (by rw [HC3.out, if_neg (by simp), if_pos (.inl hlo)])
          go_wp2
          go_ret
          exact ⟨ret_i L.out.symm, HBE.out _ HB7.out⟩
        by_cases hhi : hi < f.nu
        · have L : Hid (chkF f = 2) := Lib.hid (by rw [HC3.out, if_neg (by simp), if_pos (.inr hhi)])
          go_wp2
          go_ret
          exact ⟨ret_i L.out.symm, HBE.out _ HB7.out⟩
        have htxs := HF.out.tX
        by_cases hlg : 4096 < (f.tx.size : Int)
        · have L : Hid (chkF f = 4) := Lib.hid (by rw [HC3.out, if_neg (by simp), if_neg (fun h => h.elim hlo hhi), if_pos (by omega)])
          go_wp2
          go_ret
          exact ⟨ret_i L.out.symm, HBE.out _ HB7.out⟩
        have HC4 : Hid (chkF f = if textB f.ki f.nu (ls f.tx) = false then 3 else 0) := Lib.hid (by rw [HC3.out, if_neg (by simp), if_neg (fun h => h.elim hlo hhi), if_neg (by omega)])
        go_upto_region 15 with fail
        clear F6 F7 R4 R5
        have F0 : w7.cell? ⟨fb, 0, none⟩ = some (.int .u32 f.id) := HM2.out.1.cell 0
        have F1 : w7.cell? ⟨fb, 1, none⟩ = some (.int .u32 f.pe) := HM2.out.1.cell 1
        have F2 : w7.cell? ⟨fb, 2, none⟩ = some (.int .i64 f.ki) := HM2.out.1.cell 2
        have F3 : w7.cell? ⟨fb, 3, none⟩ = some (.int .i64 f.fr) := HM2.out.1.cell 3
        have F4 : w7.cell? ⟨fb, 4, none⟩ = some (.int .i64 f.to) := HM2.out.1.cell 4
        have F5 : w7.cell? ⟨fb, 5, none⟩ = some (.string f.co) := HM2.out.1.cell 5
        have F6 : w7.cell? ⟨fb, 6, none⟩ = some (.int .i64 f.nu) := HM2.out.1.cell 6
        have F7 : w7.cell? ⟨fb, 7, none⟩ = some (.string f.tx) := HM2.out.1.cell 7
        have R6 : w7.cell? ⟨rb, 6, none⟩ = some (.func (.func tf) #[] #[]) := HM2.out.2.1.cell 6
        have hec := HTX.out.enter
        have HXC := Lib.hid (fun W hT => HTX.out.calls f W (fit_of HF.out (codeB_small HCBE.out) (by omega)) rfl hT)
        unfold valF at HXC
        obtain ⟨tb, htb⟩ : ∃ x, textB f.ki f.nu (ls f.tx) = x := ⟨_, rfl⟩
        rw [htb] at HXC HC4
        clear htb
        have T7 : Hid (Tb w7) := Lib.hid (HT.out.below (HBE.out _ HB7.out))
        go_wp2_with fail
        refine (HXC.out _ T7.out).mono ?_
        rintro e w8 ⟨rfl, hb8⟩
        have HB8 := Lib.hid (HBE.out _ (bTrans HB7.out hb8))
        clear hb8
        cases tb with
        | false =>
          have L : Hid (chkF f = 3) := Lib.hid (by rw [HC4.out]; rfl)
          go_wp2
          go_ret
          exact ⟨ret_i L.out.symm, HB8.out⟩
        | true =>
          have L : Hid (chkF f = 0) := Lib.hid (by rw [HC4.out]; rfl)
          go_wp2
          go_ret
          exact ⟨ret_i L.out.symm, HB8.out⟩
    · have bd : (de != 0) = true := bne_iff_ne.2 hde
      have L : Hid (chkF f = de) := Lib.hid (by rw [HC1.out, if_pos hde])
      clear hde
      go_wp2
      go_ret
      exact ⟨ret_i L.out.symm, HBE.out _ HM1.out.2.2⟩
  · have L : Hid (chkF f = 11) := Lib.hid (if_pos (by omega))
    rw [decide_eq_false hk]
    clear hk
    go_wp2
    go_ret
    exact ⟨ret_i L.out.symm, HBA.out⟩
end Go.Proofs.YtmngghglcgmkeaaGreatDoor

namespace Go.Proofs.YtmngghglcgmkeaaGreatDoor
open Go.RowKit Go.Sort

set_option maxHeartbeats 4000000 in
set_option maxRecDepth 100000 in
theorem st_AddW (L : List Fa) (A : Option Addr) (cap : Nat) (f : Fa) (w : World) (hn : L.length ≤ 4096) (hcap : L.length ≤ cap) (hs : SlF w A L) (hf : FitW f) (hT : Tb w) :
    Calls Tryz.prog 10 #[.agg #[.slice A L.length cap], .agg (FA f)] w fun e w' => addR L f e w' ∧ Below w.heap.size w w' := by
  obtain ⟨sb, hsb⟩ : ∃ x, w.heap.size = x := ⟨_, rfl⟩
  obtain ⟨fb, hfb⟩ : ∃ x, sb + 1 = x := ⟨_, rfl⟩
  obtain ⟨rb, hrb⟩ : ∃ x, fb + 1 = x := ⟨_, rfl⟩
  obtain ⟨w3, hw3⟩ : ∃ x, ((w.alloc (.cells #[.slice A L.length cap] 33)).alloc (.cells (FA f) 26)).alloc (.cells #[.slice none 0 0] 33) = x := ⟨_, rfl⟩
  have HM := Lib.hid (AM.start w _ f hsb hfb hrb hw3)
  have HS := Lib.hid hs
  have HCAP := Lib.hid hcap
  have HT := Lib.hid hT
  have HF := Lib.hid hf
  have HNE : Hid (w.heap.size ≤ rb ∧ sb ≠ rb ∧ fb ≠ rb ∧ sb ≠ fb) := Lib.hid (by omega)
  have HCK := Lib.hid (fun W hT => fc_CheckW f W hf hT)
  have HPL := Lib.hid (fun W hs => st_place L A cap f.id W (by omega) hs)
  have HAD : Hid (addL L f = if 4096 ≤ L.length then (L, 5) else if chkF f ≠ 0 then (L, chkF f) else if 0 ≤ placeI L f.id then (L, 7) else if canE L f ≠ 0 then (L, canE L f) else (L ++ [f], 0)) := Lib.hid rfl
  clear hs hT hf hcap
  unfold valF at HCK
  unfold FA at hw3 ⊢
  go_enter Tryz.func10, Tryz.ntmps10
  go_upto_region 1 with fail
  clear hsb hfb hrb hw3
  have S0 : w3.cell? ⟨sb, 0, none⟩ = some (.slice A L.length cap) := HM.out.st.cell 0
  by_cases hbig : (4096 : Int) ≤ (L.length : Int)
  · have LL : Hid (addL L f = (L, 5)) := Lib.hid (by rw [HAD.out, if_pos (by omega)])
    clear S0
    have S0 : w3.cell? ⟨sb, 0, none⟩ = some (.slice A L.length cap) := HM.out.st.cell 0
    have R0 : w3.cell? ⟨rb, 0, none⟩ = some (.slice none 0 0) := HM.out.re.cell 0
    have G0 : w3.frozen? ⟨rb, 0, none⟩ = false := HM.out.re.frozen 0
    go_wp2
    have z0 : (w3.setCell ⟨rb, 0, none⟩ (.slice A L.length cap)).cell? ⟨rb, 0, none⟩ = some (.slice A L.length cap) := (HM.out.re.set_ 0 _).cell 0
    have hbz : Below w.heap.size w (w3.setCell ⟨rb, 0, none⟩ (.slice A L.length cap)) := HM.out.bel.setCell (p := ⟨rb, 0, none⟩) HNE.out.1 _
    clear S0 R0 G0
    generalize w3.setCell ⟨rb, 0, none⟩ (.slice A L.length cap) = wz at *
    exact bodyPost_ret (v := .tuple #[.agg #[.slice A L.length cap], .int .i64 (5)]) (by simp [results, Tryz.results10, go_sem, z0]) rfl ⟨⟨A, cap, by rw [LL.out], by rw [LL.out]; exact HCAP.out, by rw [LL.out]; exact HS.out.below hbz⟩, hbz⟩
  have HA1 : Hid (addL L f = if chkF f ≠ 0 then (L, chkF f) else if 0 ≤ placeI L f.id then (L, 7) else if canE L f ≠ 0 then (L, canE L f) else (L ++ [f], 0)) := Lib.hid (by rw [HAD.out, if_neg (by omega)])
  go_upto_region 4 with fail
  clear S0
  have F0 : w3.cell? ⟨fb, 0, none⟩ = some (.int .u32 f.id) := HM.out.fa.cell 0
  have F1 : w3.cell? ⟨fb, 1, none⟩ = some (.int .u32 f.pe) := HM.out.fa.cell 1
  have F2 : w3.cell? ⟨fb, 2, none⟩ = some (.int .i64 f.ki) := HM.out.fa.cell 2
  have F3 : w3.cell? ⟨fb, 3, none⟩ = some (.int .i64 f.fr) := HM.out.fa.cell 3
  have F4 : w3.cell? ⟨fb, 4, none⟩ = some (.int .i64 f.to) := HM.out.fa.cell 4
  have F5 : w3.cell? ⟨fb, 5, none⟩ = some (.string f.co) := HM.out.fa.cell 5
  have F6 : w3.cell? ⟨fb, 6, none⟩ = some (.int .i64 f.nu) := HM.out.fa.cell 6
  have F7 : w3.cell? ⟨fb, 7, none⟩ = some (.string f.tx) := HM.out.fa.cell 7
  go_wp2_with fail
  refine (HCK.out _ (HT.out.below HM.out.bel)).mono ?_
  rintro e w4 ⟨rfl, hb4⟩
  have HM4 := Lib.hid (HM.out.below hb4)
  clear F0 F1 F2 F3 F4 F5 F6 F7 hb4
  have HCC := Lib.hid (fun h W hs => st_cancel L A cap f W (by omega) hs (chk_cancel h))
  unfold FA at HCC
  generalize chkF f = ce at *
  by_cases hce : ce = 0
  · have bce : (ce != 0) = false := by rw [hce]; rfl
    have HCE := Lib.hid hce
    have HA2 : Hid (addL L f = if 0 ≤ placeI L f.id then (L, 7) else if canE L f ≠ 0 then (L, canE L f) else (L ++ [f], 0)) := Lib.hid (by rw [HA1.out, if_neg (fun h => h hce)])
    clear hce
    go_upto_region 7 with fail
    have S0 : w4.cell? ⟨sb, 0, none⟩ = some (.slice A L.length cap) := HM4.out.st.cell 0
    have F0 : w4.cell? ⟨fb, 0, none⟩ = some (.int .u32 f.id) := HM4.out.fa.cell 0
    go_wp2_with fail
    refine (HPL.out _ (HS.out.below HM4.out.bel)).mono ?_
    rintro e w5 ⟨rfl, hb5⟩
    have HM5 := Lib.hid (HM4.out.below hb5)
    clear S0 F0 hb5
    generalize placeI L f.id = pl at *
    by_cases hpl : 0 ≤ pl
    · have LL : Hid (addL L f = (L, 7)) := Lib.hid (by rw [HA2.out, if_pos hpl])
      have S0 : w5.cell? ⟨sb, 0, none⟩ = some (.slice A L.length cap) := HM5.out.st.cell 0
      have R0 : w5.cell? ⟨rb, 0, none⟩ = some (.slice none 0 0) := HM5.out.re.cell 0
      have G0 : w5.frozen? ⟨rb, 0, none⟩ = false := HM5.out.re.frozen 0
      go_wp2
      have z0 : (w5.setCell ⟨rb, 0, none⟩ (.slice A L.length cap)).cell? ⟨rb, 0, none⟩ = some (.slice A L.length cap) := (HM5.out.re.set_ 0 _).cell 0
      have hbz : Below w.heap.size w (w5.setCell ⟨rb, 0, none⟩ (.slice A L.length cap)) := HM5.out.bel.setCell (p := ⟨rb, 0, none⟩) HNE.out.1 _
      clear S0 R0 G0
      generalize w5.setCell ⟨rb, 0, none⟩ (.slice A L.length cap) = wz at *
      exact bodyPost_ret (v := .tuple #[.agg #[.slice A L.length cap], .int .i64 (7)]) (by simp [results, Tryz.results10, go_sem, z0]) rfl ⟨⟨A, cap, by rw [LL.out], by rw [LL.out]; exact HCAP.out, by rw [LL.out]; exact HS.out.below hbz⟩, hbz⟩
    have HA3 : Hid (addL L f = if canE L f ≠ 0 then (L, canE L f) else (L ++ [f], 0)) := Lib.hid (by rw [HA2.out, if_neg hpl])
    have hpl2 : ¬ 0 ≤ pl := hpl
    clear hpl
    go_upto_region 9 with fail
    have S0 : w5.cell? ⟨sb, 0, none⟩ = some (.slice A L.length cap) := HM5.out.st.cell 0
    have F0 : w5.cell? ⟨fb, 0, none⟩ = some (.int .u32 f.id) := HM5.out.fa.cell 0
    have F1 : w5.cell? ⟨fb, 1, none⟩ = some (.int .u32 f.pe) := HM5.out.fa.cell 1
    have F2 : w5.cell? ⟨fb, 2, none⟩ = some (.int .i64 f.ki) := HM5.out.fa.cell 2
    have F3 : w5.cell? ⟨fb, 3, none⟩ = some (.int .i64 f.fr) := HM5.out.fa.cell 3
    have F4 : w5.cell? ⟨fb, 4, none⟩ = some (.int .i64 f.to) := HM5.out.fa.cell 4
    have F5 : w5.cell? ⟨fb, 5, none⟩ = some (.string f.co) := HM5.out.fa.cell 5
    have F6 : w5.cell? ⟨fb, 6, none⟩ = some (.int .i64 f.nu) := HM5.out.fa.cell 6
    have F7 : w5.cell? ⟨fb, 7, none⟩ = some (.string f.tx) := HM5.out.fa.cell 7
    go_wp2_with fail
    refine (HCC.out HCE.out _ (HS.out.below HM5.out.bel)).mono ?_
    rintro e w6 ⟨rfl, hb6⟩
    have HM6 := Lib.hid (HM5.out.below hb6)
    clear S0 F0 F1 F2 F3 F4 F5 F6 F7 hb6
    generalize canE L f = ca at *
    by_cases hca : ca = 0
    · have bca : (ca != 0) = false := by rw [hca]; rfl
      have LL : Hid (addL L f = (L ++ [f], 0)) := Lib.hid (by rw [HA3.out, if_neg (fun h => h hca)])
      clear hca
      obtain ⟨ZC, hZC, hmk⟩ := run_makeF (L.length + 1) (by omega)
      rw [show ((L.length + 1 : Nat) : Int) = (L.length : Int) + 1 by omega] at hmk
      go_upto_region 13 with fail
      obtain ⟨g, hg⟩ : ∃ x, w6.heap.size = x := ⟨_, rfl⟩
      obtain ⟨w7, hw7⟩ : ∃ x, w6.alloc (.cells ZC.toArray 26) = x := ⟨_, rfl⟩
      have HM7 : Hid (AM w w7 sb fb rb (.slice A L.length cap) f) := Lib.hid (HM6.out.below (by rw [← hw7]; exact bAlloc w6 _))
      have HG7 : Hid (w7.drew.heap[g]? = some (.cells ZC.toArray 26 (0, 0))) := Lib.hid (by rw [← hw7, ← hg]; exact new_block w6 _)
      have HGE : Hid (w.heap.size ≤ g ∧ sb ≠ g ∧ fb ≠ g ∧ rb ≠ g) := Lib.hid (by have h1 := HM6.out.st.lt; have h2 := HM6.out.fa.lt; have h3 := HM6.out.re.lt; have h4 := HM6.out.bel.size; omega)
      rw [hw7, hg]
      clear hg hw7 hmk
      obtain ⟨w8, hw8⟩ : ∃ x, w7.drew.setRow g (rowF L ++ ZC.drop (L.length * 8)).toArray = x := ⟨_, rfl⟩
      have hcp : ∀ ty, (Builtin.copy_ #[22, 22] ty #[.slice (some ⟨g, 0, none⟩) (L.length + 1) (L.length + 1), .slice A L.length cap]).run Tryz.prog w7.drew = .ok (goInt L.length) w8 := fun ty => by rw [← hw8]; exact run_copyF w7.drew g A L cap ty ZC HG7.out hZC (HS.out.below (HM7.out.bel.trans (bDrewB w7 _)))
      have HG8 : Hid (w8.heap[g]? = some (.cells (rowF L ++ ZC.drop (L.length * 8)).toArray 26 (0, 0))) := Lib.hid (by rw [← hw8]; exact setRow_heap w7.drew g _ _ _ _ HG7.out)
      have HM8 : Hid (AM w w8 sb fb rb (.slice A L.length cap) f) := Lib.hid (by rw [← hw8]; exact (HM7.out.below (bDrewB w7 _)).row HGE.out _)
      clear hw8
      have S0 : w7.drew.cell? ⟨sb, 0, none⟩ = some (.slice A L.length cap) := (HM7.out.below (bDrewB w7 _)).st.cell 0
      have F0 : w7.drew.cell? ⟨fb, 0, none⟩ = some (.int .u32 f.id) := (HM7.out.below (bDrewB w7 _)).fa.cell 0
      have E0 : w8.cell? ⟨fb, 0, none⟩ = some (.int .u32 f.id) := HM8.out.fa.cell 0
      obtain ⟨zI0, I0⟩ : ∃ z, w8.cell? ⟨g, L.length * 8, none⟩ = some z := row_some (n := 8) HG8.out (by omega)
      have G0 : w8.frozen? ⟨g, L.length * 8, none⟩ = false := frozen_of_row w8 g _ _ _ HG8.out
      have F1 : w7.drew.cell? ⟨fb, 1, none⟩ = some (.int .u32 f.pe) := (HM7.out.below (bDrewB w7 _)).fa.cell 1
      have E1 : w8.cell? ⟨fb, 1, none⟩ = some (.int .u32 f.pe) := HM8.out.fa.cell 1
      obtain ⟨zI1, I1⟩ : ∃ z, w8.cell? ⟨g, L.length * 8 + 1, none⟩ = some z := row_some (n := 8) HG8.out (by omega)
      have G1 : w8.frozen? ⟨g, L.length * 8 + 1, none⟩ = false := frozen_of_row w8 g _ _ _ HG8.out
      have F2 : w7.drew.cell? ⟨fb, 2, none⟩ = some (.int .i64 f.ki) := (HM7.out.below (bDrewB w7 _)).fa.cell 2
      have E2 : w8.cell? ⟨fb, 2, none⟩ = some (.int .i64 f.ki) := HM8.out.fa.cell 2
      obtain ⟨zI2, I2⟩ : ∃ z, w8.cell? ⟨g, L.length * 8 + 2, none⟩ = some z := row_some (n := 8) HG8.out (by omega)
      have G2 : w8.frozen? ⟨g, L.length * 8 + 2, none⟩ = false := frozen_of_row w8 g _ _ _ HG8.out
      have F3 : w7.drew.cell? ⟨fb, 3, none⟩ = some (.int .i64 f.fr) := (HM7.out.below (bDrewB w7 _)).fa.cell 3
      have E3 : w8.cell? ⟨fb, 3, none⟩ = some (.int .i64 f.fr) := HM8.out.fa.cell 3
      obtain ⟨zI3, I3⟩ : ∃ z, w8.cell? ⟨g, L.length * 8 + 3, none⟩ = some z := row_some (n := 8) HG8.out (by omega)
      have G3 : w8.frozen? ⟨g, L.length * 8 + 3, none⟩ = false := frozen_of_row w8 g _ _ _ HG8.out
      have F4 : w7.drew.cell? ⟨fb, 4, none⟩ = some (.int .i64 f.to) := (HM7.out.below (bDrewB w7 _)).fa.cell 4
      have E4 : w8.cell? ⟨fb, 4, none⟩ = some (.int .i64 f.to) := HM8.out.fa.cell 4
      obtain ⟨zI4, I4⟩ : ∃ z, w8.cell? ⟨g, L.length * 8 + 4, none⟩ = some z := row_some (n := 8) HG8.out (by omega)
      have G4 : w8.frozen? ⟨g, L.length * 8 + 4, none⟩ = false := frozen_of_row w8 g _ _ _ HG8.out
      have F5 : w7.drew.cell? ⟨fb, 5, none⟩ = some (.string f.co) := (HM7.out.below (bDrewB w7 _)).fa.cell 5
      have E5 : w8.cell? ⟨fb, 5, none⟩ = some (.string f.co) := HM8.out.fa.cell 5
      obtain ⟨zI5, I5⟩ : ∃ z, w8.cell? ⟨g, L.length * 8 + 5, none⟩ = some z := row_some (n := 8) HG8.out (by omega)
      have G5 : w8.frozen? ⟨g, L.length * 8 + 5, none⟩ = false := frozen_of_row w8 g _ _ _ HG8.out
      have F6 : w7.drew.cell? ⟨fb, 6, none⟩ = some (.int .i64 f.nu) := (HM7.out.below (bDrewB w7 _)).fa.cell 6
      have E6 : w8.cell? ⟨fb, 6, none⟩ = some (.int .i64 f.nu) := HM8.out.fa.cell 6
      obtain ⟨zI6, I6⟩ : ∃ z, w8.cell? ⟨g, L.length * 8 + 6, none⟩ = some z := row_some (n := 8) HG8.out (by omega)
      have G6 : w8.frozen? ⟨g, L.length * 8 + 6, none⟩ = false := frozen_of_row w8 g _ _ _ HG8.out
      have F7 : w7.drew.cell? ⟨fb, 7, none⟩ = some (.string f.tx) := (HM7.out.below (bDrewB w7 _)).fa.cell 7
      have E7 : w8.cell? ⟨fb, 7, none⟩ = some (.string f.tx) := HM8.out.fa.cell 7
      obtain ⟨zI7, I7⟩ : ∃ z, w8.cell? ⟨g, L.length * 8 + 7, none⟩ = some z := row_some (n := 8) HG8.out (by omega)
      have G7 : w8.frozen? ⟨g, L.length * 8 + 7, none⟩ = false := frozen_of_row w8 g _ _ _ HG8.out
      have hx0 : (0 : Int) ≤ (L.length : Int) := by omega
      have hx1 : (L.length : Int) < (L.length : Int) + 1 := by omega
      obtain ⟨w9, hw9⟩ : ∃ x, w8.setCells g (L.length * 8) (encF f) = x := ⟨_, rfl⟩
      have hw9c : ((((((((w8.setCell ⟨g, L.length * 8, none⟩ (.int .u32 f.id)).setCell ⟨g, L.length * 8 + 1, none⟩ (.int .u32 f.pe)).setCell ⟨g, L.length * 8 + 2, none⟩ (.int .i64 f.ki)).setCell ⟨g, L.length * 8 + 3, none⟩ (.int .i64 f.fr)).setCell ⟨g, L.length * 8 + 4, none⟩ (.int .i64 f.to)).setCell ⟨g, L.length * 8 + 5, none⟩ (.string f.co)).setCell ⟨g, L.length * 8 + 6, none⟩ (.int .i64 f.nu)).setCell ⟨g, L.length * 8 + 7, none⟩ (.string f.tx)) = w9 := hw9
      have HM9 : Hid (AM w w9 sb fb rb (.slice A L.length cap) f) := Lib.hid (by rw [← hw9]; exact HM8.out.cells HGE.out _ _)
      have HS9 : Hid (SlF w9 (some ⟨g, 0, none⟩) (L ++ [f])) := Lib.hid (rowAdd L f _ HG8.out (by rw [List.length_drop, hZC]; omega) hw9.symm)
      have R9 : w9.cell? ⟨rb, 0, none⟩ = some (.slice none 0 0) := HM9.out.re.cell 0
      have K9 : w9.frozen? ⟨rb, 0, none⟩ = false := HM9.out.re.frozen 0
      go_region_law (refine step_copyF rfl (.tmp 39) (.tmp 41) _ _ rfl L.length (.slice (some ⟨g, 0, none⟩) (L.length + 1) (L.length + 1)) (.slice A L.length cap) hcp (by simp [Act.eval]) (by simp [Act.eval]) ?_)
      all_goals
        clear hw9c hw9
        go_wp2
        have z0 : (w9.setCell ⟨rb, 0, none⟩ (.slice (some ⟨g, 0, none⟩) (L.length + 1) (L.length + 1))).cell? ⟨rb, 0, none⟩ = some (.slice (some ⟨g, 0, none⟩) (L.length + 1) (L.length + 1)) := (HM9.out.re.set_ 0 _).cell 0
        have hbz : Below w.heap.size w (w9.setCell ⟨rb, 0, none⟩ (.slice (some ⟨g, 0, none⟩) (L.length + 1) (L.length + 1))) := HM9.out.bel.setCell (p := ⟨rb, 0, none⟩) HNE.out.1 _
        have hsz : SlF (w9.setCell ⟨rb, 0, none⟩ (.slice (some ⟨g, 0, none⟩) (L.length + 1) (L.length + 1))) (some ⟨g, 0, none⟩) (L ++ [f]) := HS9.out.put HGE.out.2.2.2 _
        generalize w9.setCell ⟨rb, 0, none⟩ (.slice (some ⟨g, 0, none⟩) (L.length + 1) (L.length + 1)) = wz at *
        exact bodyPost_ret (v := .tuple #[.agg #[.slice (some ⟨g, 0, none⟩) (L.length + 1) (L.length + 1)], .int .i64 0]) (by simp [results, Tryz.results10, go_sem, z0]) rfl ⟨⟨some ⟨g, 0, none⟩, L.length + 1, by rw [LL.out, List.length_append]; rfl, by rw [LL.out, List.length_append]; exact Nat.le_refl _, by rw [LL.out]; exact hsz⟩, hbz⟩
    · have bca : (ca != 0) = true := bne_iff_ne.2 hca
      have LL : Hid (addL L f = (L, ca)) := Lib.hid (by rw [HA3.out, if_pos hca])
      clear hca
      have S0 : w6.cell? ⟨sb, 0, none⟩ = some (.slice A L.length cap) := HM6.out.st.cell 0
      have R0 : w6.cell? ⟨rb, 0, none⟩ = some (.slice none 0 0) := HM6.out.re.cell 0
      have G0 : w6.frozen? ⟨rb, 0, none⟩ = false := HM6.out.re.frozen 0
      go_wp2
      have z0 : (w6.setCell ⟨rb, 0, none⟩ (.slice A L.length cap)).cell? ⟨rb, 0, none⟩ = some (.slice A L.length cap) := (HM6.out.re.set_ 0 _).cell 0
      have hbz : Below w.heap.size w (w6.setCell ⟨rb, 0, none⟩ (.slice A L.length cap)) := HM6.out.bel.setCell (p := ⟨rb, 0, none⟩) HNE.out.1 _
      clear S0 R0 G0
      generalize w6.setCell ⟨rb, 0, none⟩ (.slice A L.length cap) = wz at *
      exact bodyPost_ret (v := .tuple #[.agg #[.slice A L.length cap], .int .i64 (ca)]) (by simp [results, Tryz.results10, go_sem, z0]) rfl ⟨⟨A, cap, by rw [LL.out], by rw [LL.out]; exact HCAP.out, by rw [LL.out]; exact HS.out.below hbz⟩, hbz⟩
  · have bce : (ce != 0) = true := bne_iff_ne.2 hce
    have LL : Hid (addL L f = (L, ce)) := Lib.hid (by rw [HA1.out, if_pos hce])
    clear hce
    have S0 : w4.cell? ⟨sb, 0, none⟩ = some (.slice A L.length cap) := HM4.out.st.cell 0
    have R0 : w4.cell? ⟨rb, 0, none⟩ = some (.slice none 0 0) := HM4.out.re.cell 0
    have G0 : w4.frozen? ⟨rb, 0, none⟩ = false := HM4.out.re.frozen 0
    go_wp2
    have z0 : (w4.setCell ⟨rb, 0, none⟩ (.slice A L.length cap)).cell? ⟨rb, 0, none⟩ = some (.slice A L.length cap) := (HM4.out.re.set_ 0 _).cell 0
    have hbz : Below w.heap.size w (w4.setCell ⟨rb, 0, none⟩ (.slice A L.length cap)) := HM4.out.bel.setCell (p := ⟨rb, 0, none⟩) HNE.out.1 _
    clear S0 R0 G0
    generalize w4.setCell ⟨rb, 0, none⟩ (.slice A L.length cap) = wz at *
    exact bodyPost_ret (v := .tuple #[.agg #[.slice A L.length cap], .int .i64 (ce)]) (by simp [results, Tryz.results10, go_sem, z0]) rfl ⟨⟨A, cap, by rw [LL.out], by rw [LL.out]; exact HCAP.out, by rw [LL.out]; exact HS.out.below hbz⟩, hbz⟩
theorem tell_chk : ∀ (l L : List Fa), (∀ x ∈ L, chkF x = 0) → ∀ x ∈ tellL L l, chkF x = 0
  | [], L, h => h
  | f :: l, L, h => by
    rw [tellL_cons]
    refine tell_chk l _ fun x hx => ?_
    rcases addL_or L f with ⟨e, _, he⟩ | ⟨he, _, hc, _, _⟩
    · rw [he] at hx; exact h x hx
    · rw [he] at hx
      rcases List.mem_append.1 hx with hx | hx
      · exact h x hx
      · rw [List.mem_singleton.1 hx]; exact hc
theorem chk_fit {f : Fa} (h : FitW f) (hc : chkF f = 0) : Fit f := by
  unfold chkF at hc
  repeat' split at hc
  all_goals first
    | (exfalso; omega)
    | skip
  rename_i h1 h2
  exact fit_of h (codeB_small (by
    cases hcb : codeB f.ki (ls f.co) with
    | true => rfl
    | false => simp_all)) (by omega)
end Go.Proofs.YtmngghglcgmkeaaGreatDoor
