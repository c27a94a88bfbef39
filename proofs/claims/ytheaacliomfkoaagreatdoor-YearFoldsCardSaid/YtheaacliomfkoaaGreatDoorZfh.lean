/- Out of: Chx Yb0 Yb1. -/
import Derived.Test.YtheaacliomfkoaaGreatDoorZfa
import Derived.Test.YtheaacliomfkoaaGreatDoorZff
import Derived.Test.YtheaacliomfkoaaGreatDoorZfg
import Derived.Deep.AppendLies
import Derived.Deep.Cut
import Derived.Deep.RegionHeld3
import Derived.Deep.RegionHeldLaw
import Derived.Deep.RegionLaw
import Derived.Deep.Upon
import Derived.Laws.CopyOwn
import Derived.OwnWalk
/- fact.Check and Store.Add at facts with texts of any size. (Out of Ltb.) -/
namespace Go.Proofs.YtheaacliomfkoaaGreatDoor
open Go.RowKit Go.Sort

set_option linter.unusedVariables false in
set_option maxHeartbeats 4000000 in
theorem fc_isNameW (s : ByteArray) (w : World) (hs : s.size ≤ 9223372036854775807) : Calls Tryz.prog 154 #[.string s] w fun e w' => e = .returned (.bool (nameB (ls s))) ∧ w = w' := by
  go_enter Tryz.func154, Tryz.ntmps154
  go_wp2
  go_loop [3, 4, 7] (fun _ _ iv => ∃ k : Nat, k ≤ s.size ∧ iv = .int .i64 k ∧ Hid (((ls s).take k).all nameC = true)) (fun _ _ iv => s.size - (intOf iv).toNat)
  case atStart => exact ⟨0, Nat.zero_le _, rfl, Lib.hid rfl⟩
  case round =>
    obtain ⟨k, hk, rfl, HP⟩ := hrel
    by_cases hlt : k < s.size
    · have hix := run_at (P := Tryz.prog) 9 Tryz.underlying9 s k hlt
      have hbd := byteAt_bd s k
      obtain ⟨b, hb, hcb⟩ := byte_some hlt
      have HB := Lib.hid hb
      have HC := Lib.hid hcb
      clear hb hcb
      generalize byteAt s k = c at *
      have hcl : (c < 45) ∨ (c = 45) ∨ (c = 46) ∨ (c = 47) ∨ (48 ≤ c ∧ c ≤ 57) ∨ (58 ≤ c ∧ c < 95) ∨ (c = 95) ∨ (c = 96) ∨ (97 ≤ c ∧ c ≤ 122) ∨ (122 < c) := by omega
      rcases hcl with hc | hc | hc | hc | hc | hc | hc | hc | hc | hc
      · have HX : Hid (nameC b = false) := Lib.hid (by have := HC.out; unfold nameC; simp; omega)
        have t1 : c < 97 := by omega
        have t2 : ¬ 122 < c := by omega
        have t3 : c < 48 := by omega
        have t4 : ¬ 57 < c := by omega
        have t5 : (c == 46) = false := beq_eq_false_iff_ne.2 (by omega)
        have t5n : (c != 46) = true := bne_iff_ne.2 (by omega)
        have t6 : (c == 95) = false := beq_eq_false_iff_ne.2 (by omega)
        have t6n : (c != 95) = true := bne_iff_ne.2 (by omega)
        have t7 : (c == 45) = false := beq_eq_false_iff_ne.2 (by omega)
        have t7n : (c != 45) = true := bne_iff_ne.2 (by omega)
        have HF := Lib.hid (nameB_bad (all_bad HB.out HX.out))
        go_wp2
        go_ret
        exact ⟨ret_b HF.out.symm, rfl⟩
      · have HX : Hid (nameC b = true) := Lib.hid (by have := HC.out; unfold nameC; simp; omega)
        subst hc
        have HN := Lib.hid (all_more HP.out HB.out HX.out)
        go_wp2
        go_round
        case rel => exact ⟨k + 1, by omega, by go_num, HN⟩
        case measure => simp [intOf]; omega
      · have HX : Hid (nameC b = true) := Lib.hid (by have := HC.out; unfold nameC; simp; omega)
        subst hc
        have HN := Lib.hid (all_more HP.out HB.out HX.out)
        go_wp2
        go_round
        case rel => exact ⟨k + 1, by omega, by go_num, HN⟩
        case measure => simp [intOf]; omega
      · have HX : Hid (nameC b = false) := Lib.hid (by have := HC.out; unfold nameC; simp; omega)
        subst hc
        have HF := Lib.hid (nameB_bad (all_bad HB.out HX.out))
        go_wp2
        go_ret
        exact ⟨ret_b HF.out.symm, rfl⟩
      · have HX : Hid (nameC b = true) := Lib.hid (by have := HC.out; unfold nameC; simp; omega)
        have t1 : c < 97 := by omega
        have t2 : ¬ 122 < c := by omega
        have t3 : ¬ c < 48 := by omega
        have t4 : ¬ 57 < c := by omega
        have t5 : (c == 46) = false := beq_eq_false_iff_ne.2 (by omega)
        have t5n : (c != 46) = true := bne_iff_ne.2 (by omega)
        have t6 : (c == 95) = false := beq_eq_false_iff_ne.2 (by omega)
        have t6n : (c != 95) = true := bne_iff_ne.2 (by omega)
        have t7 : (c == 45) = false := beq_eq_false_iff_ne.2 (by omega)
        have t7n : (c != 45) = true := bne_iff_ne.2 (by omega)
        have HN := Lib.hid (all_more HP.out HB.out HX.out)
        go_wp2
        go_round
        case rel => exact ⟨k + 1, by omega, by go_num, HN⟩
        case measure => simp [intOf]; omega
      · have HX : Hid (nameC b = false) := Lib.hid (by have := HC.out; unfold nameC; simp; omega)
        have t1 : c < 97 := by omega
        have t2 : ¬ 122 < c := by omega
        have t3 : ¬ c < 48 := by omega
        have t4 : 57 < c := by omega
        have t5 : (c == 46) = false := beq_eq_false_iff_ne.2 (by omega)
        have t5n : (c != 46) = true := bne_iff_ne.2 (by omega)
        have t6 : (c == 95) = false := beq_eq_false_iff_ne.2 (by omega)
        have t6n : (c != 95) = true := bne_iff_ne.2 (by omega)
        have t7 : (c == 45) = false := beq_eq_false_iff_ne.2 (by omega)
        have t7n : (c != 45) = true := bne_iff_ne.2 (by omega)
        have HF := Lib.hid (nameB_bad (all_bad HB.out HX.out))
        go_wp2
        go_ret
        exact ⟨ret_b HF.out.symm, rfl⟩
      · have HX : Hid (nameC b = true) := Lib.hid (by have := HC.out; unfold nameC; simp; omega)
        subst hc
        have HN := Lib.hid (all_more HP.out HB.out HX.out)
        go_wp2
        go_round
        case rel => exact ⟨k + 1, by omega, by go_num, HN⟩
        case measure => simp [intOf]; omega
      · have HX : Hid (nameC b = false) := Lib.hid (by have := HC.out; unfold nameC; simp; omega)
        subst hc
        have HF := Lib.hid (nameB_bad (all_bad HB.out HX.out))
        go_wp2
        go_ret
        exact ⟨ret_b HF.out.symm, rfl⟩
      · have HX : Hid (nameC b = true) := Lib.hid (by have := HC.out; unfold nameC; simp; omega)
        have t1 : ¬ c < 97 := by omega
        have t2 : ¬ 122 < c := by omega
        have t3 : ¬ c < 48 := by omega
        have t4 : 57 < c := by omega
        have t5 : (c == 46) = false := beq_eq_false_iff_ne.2 (by omega)
        have t5n : (c != 46) = true := bne_iff_ne.2 (by omega)
        have t6 : (c == 95) = false := beq_eq_false_iff_ne.2 (by omega)
        have t6n : (c != 95) = true := bne_iff_ne.2 (by omega)
        have t7 : (c == 45) = false := beq_eq_false_iff_ne.2 (by omega)
        have t7n : (c != 45) = true := bne_iff_ne.2 (by omega)
        have HN := Lib.hid (all_more HP.out HB.out HX.out)
        go_wp2
        go_round
        case rel => exact ⟨k + 1, by omega, by go_num, HN⟩
        case measure => simp [intOf]; omega
      · have HX : Hid (nameC b = false) := Lib.hid (by have := HC.out; unfold nameC; simp; omega)
        have t1 : ¬ c < 97 := by omega
        have t2 : 122 < c := by omega
        have t3 : ¬ c < 48 := by omega
        have t4 : 57 < c := by omega
        have t5 : (c == 46) = false := beq_eq_false_iff_ne.2 (by omega)
        have t5n : (c != 46) = true := bne_iff_ne.2 (by omega)
        have t6 : (c == 95) = false := beq_eq_false_iff_ne.2 (by omega)
        have t6n : (c != 95) = true := bne_iff_ne.2 (by omega)
        have t7 : (c == 45) = false := beq_eq_false_iff_ne.2 (by omega)
        have t7n : (c != 45) = true := bne_iff_ne.2 (by omega)
        have HF := Lib.hid (nameB_bad (all_bad HB.out HX.out))
        go_wp2
        go_ret
        exact ⟨ret_b HF.out.symm, rfl⟩
    · obtain rfl : k = s.size := by omega
      have HF : Hid ((ls s).all nameC = true) := Lib.hid (by have := HP.out; rwa [List.take_of_length_le (by rw [ls_len]; omega)] at this)
      by_cases h0 : s.size = 0
      · have he : s.toList.isEmpty = true := by rw [isEmpty_ls, (nil_iff s).2 h0]; rfl
        have HR : Hid (nameB (ls s) = false) := Lib.hid (by rw [(nil_iff s).2 h0]; rfl)
        go_wp2
        go_ret
        exact ⟨ret_b HR.out.symm, rfl⟩
      have he : s.toList.isEmpty = false := by rw [isEmpty_ls]; simpa using fun h => h0 ((nil_iff s).1 h)
      by_cases h1 : ls s = [45]
      · have hd : (s.toList == [45]) = true := by rw [beq_ls]; exact decide_eq_true h1
        have HR : Hid (nameB (ls s) = false) := Lib.hid (by rw [h1]; rfl)
        clear h1
        go_wp2
        go_ret
        exact ⟨ret_b HR.out.symm, rfl⟩
      have hd : (s.toList == [45]) = false := by rw [beq_ls]; exact decide_eq_false h1
      have HR : Hid (nameB (ls s) = decide (s.size ≤ 32)) := Lib.hid (by
        rw [nameB_of HF.out, ← ls_len]
        have e1 : (ls s == []) = false := by simpa using fun h => h0 ((nil_iff s).1 h)
        have e2 : (ls s == [45]) = false := by simpa using h1
        rw [e1, e2]; rfl)
      clear h1
      by_cases hq : (s.size : Int) ≤ 32
      · go_wp2
        go_ret
        exact ⟨ret_b (by rw [HR.out]; simp; omega), rfl⟩
      · go_wp2
        go_ret
        exact ⟨ret_b (by rw [HR.out]; simp; omega), rfl⟩
theorem fc_eitherW (s : ByteArray) (w : World) (hs : s.size ≤ 9223372036854775807) : Calls Tryz.prog 153 #[.string s] w fun e w' => e = .returned (.bool (ls s == [] || nameB (ls s))) ∧ w = w' := by
  have HN := Lib.hid (fun W => fc_isNameW s W hs)
  cases he : (ls s == []) with
  | true =>
    have h1 : s.toList.isEmpty = true := by rw [isEmpty_ls]; exact he
    clear he
    go_enter Tryz.func153, Tryz.ntmps153
    go_wp2
    go_ret
    exact ⟨rfl, rfl⟩
  | false =>
    have h1 : s.toList.isEmpty = false := by rw [isEmpty_ls]; exact he
    clear he
    go_enter Tryz.func153, Tryz.ntmps153
    go_wp2_with fail
    refine (HN.out _).mono ?_
    rintro e w1 ⟨rfl, rfl⟩
    go_wp2
    go_ret
    exact ⟨rfl, rfl⟩
structure CodeOkW (k : Int) (n : Nat) : Prop where
  enter : ∀ args w, (callFunc n args).run Tryz.prog w = .ok (.enter n args) w
  calls : ∀ s W, s.size ≤ 9223372036854775807 → Calls Tryz.prog n #[.string s] W fun e w' => e = .returned (.bool (codeB k (ls s))) ∧ Below W.heap.size W w'
theorem codeW_1 : CodeOkW 1 159 := ⟨fun _ _ => by kernel_rfl, fun s W _ => same_below (fc_empty s W)⟩
theorem codeW_2 : CodeOkW 2 159 := ⟨fun _ _ => by kernel_rfl, fun s W _ => same_below (fc_empty s W)⟩
theorem codeW_3 : CodeOkW 3 159 := ⟨fun _ _ => by kernel_rfl, fun s W _ => same_below (fc_empty s W)⟩
theorem codeW_4 : CodeOkW 4 159 := ⟨fun _ _ => by kernel_rfl, fun s W _ => same_below (fc_empty s W)⟩
theorem codeW_5 : CodeOkW 5 159 := ⟨fun _ _ => by kernel_rfl, fun s W _ => same_below (fc_empty s W)⟩
theorem codeW_6 : CodeOkW 6 153 := ⟨fun _ _ => by kernel_rfl, fun s W h => same_below (fc_eitherW s W h)⟩
theorem codeW_7 : CodeOkW 7 165 := ⟨fun _ _ => by kernel_rfl, fun s W _ => grows_below (fc_absence s W)⟩
theorem codeW_8 : CodeOkW 8 154 := ⟨fun _ _ => by kernel_rfl, fun s W h => same_below (fc_isNameW s W h)⟩
theorem codeW_9 : CodeOkW 9 154 := ⟨fun _ _ => by kernel_rfl, fun s W h => same_below (fc_isNameW s W h)⟩
theorem codeW_10 : CodeOkW 10 154 := ⟨fun _ _ => by kernel_rfl, fun s W h => same_below (fc_isNameW s W h)⟩
theorem codeW_11 : CodeOkW 11 159 := ⟨fun _ _ => by kernel_rfl, fun s W _ => same_below (fc_empty s W)⟩
theorem codeW_12 : CodeOkW 12 154 := ⟨fun _ _ => by kernel_rfl, fun s W h => same_below (fc_isNameW s W h)⟩
theorem codeW_13 : CodeOkW 13 159 := ⟨fun _ _ => by kernel_rfl, fun s W _ => same_below (fc_empty s W)⟩
theorem codeW_14 : CodeOkW 14 154 := ⟨fun _ _ => by kernel_rfl, fun s W h => same_below (fc_isNameW s W h)⟩
theorem codeW_15 : CodeOkW 15 154 := ⟨fun _ _ => by kernel_rfl, fun s W h => same_below (fc_isNameW s W h)⟩
theorem codeW_16 : CodeOkW 16 159 := ⟨fun _ _ => by kernel_rfl, fun s W _ => same_below (fc_empty s W)⟩
theorem codeW_17 : CodeOkW 17 159 := ⟨fun _ _ => by kernel_rfl, fun s W _ => same_below (fc_empty s W)⟩
theorem codeW_18 : CodeOkW 18 159 := ⟨fun _ _ => by kernel_rfl, fun s W _ => same_below (fc_empty s W)⟩
theorem rule_partsW (k : Int) (h1 : 1 ≤ k) (h2 : k ≤ 18) : ∃ (nm : ByteArray) (cf tf : Nat), ruleV k = #[.string nm, .bool (firmB k), .bool (daysB k), .func (.func cf) #[] #[], .int .i64 (lowN k), .int .i64 (highN k), .func (.func tf) #[] #[]] ∧ CodeOkW k cf ∧ TextOk k tf := by
  have : k = 1 ∨ k = 2 ∨ k = 3 ∨ k = 4 ∨ k = 5 ∨ k = 6 ∨ k = 7 ∨ k = 8 ∨ k = 9 ∨ k = 10 ∨ k = 11 ∨ k = 12 ∨ k = 13 ∨ k = 14 ∨ k = 15 ∨ k = 16 ∨ k = 17 ∨ k = 18 := by omega
  rcases this with rfl | rfl | rfl | rfl | rfl | rfl | rfl | rfl | rfl | rfl | rfl | rfl | rfl | rfl | rfl | rfl | rfl | rfl
  · exact ⟨_, _, _, rfl, codeW_1, text_1⟩
  · exact ⟨_, _, _, rfl, codeW_2, text_2⟩
  · exact ⟨_, _, _, rfl, codeW_3, text_3⟩
  · exact ⟨_, _, _, rfl, codeW_4, text_4⟩
  · exact ⟨_, _, _, rfl, codeW_5, text_5⟩
  · exact ⟨_, _, _, rfl, codeW_6, text_6⟩
  · exact ⟨_, _, _, rfl, codeW_7, text_7⟩
  · exact ⟨_, _, _, rfl, codeW_8, text_8⟩
  · exact ⟨_, _, _, rfl, codeW_9, text_9⟩
  · exact ⟨_, _, _, rfl, codeW_10, text_10⟩
  · exact ⟨_, _, _, rfl, codeW_11, text_11⟩
  · exact ⟨_, _, _, rfl, codeW_12, text_12⟩
  · exact ⟨_, _, _, rfl, codeW_13, text_13⟩
  · exact ⟨_, _, _, rfl, codeW_14, text_14⟩
  · exact ⟨_, _, _, rfl, codeW_15, text_15⟩
  · exact ⟨_, _, _, rfl, codeW_16, text_16⟩
  · exact ⟨_, _, _, rfl, codeW_17, text_17⟩
  · exact ⟨_, _, _, rfl, codeW_18, text_18⟩
theorem codeB_small {k : Int} {s : ByteArray} (h : codeB k (ls s) = true) : s.size ≤ 1000000 := by
  have hl := ls_len s
  have hn : ∀ l : List UInt8, nameB l = true → l.length ≤ 32 := fun l h => by
    unfold nameB at h
    simp only [Bool.and_eq_true, decide_eq_true_eq] at h
    exact h.2
  have hz : ∀ l : List UInt8, (l == []) = true → l.length ≤ 32 := fun l h => by
    have : l = [] := by simpa using h
    rw [this]; exact Nat.zero_le _
  unfold codeB at h
  split at h
  · rw [Bool.or_eq_true] at h
    rcases h with h | h
    · have := hz _ h; omega
    · have := hn _ h; omega
  · split at h
    · unfold absenceB at h
      rw [decide_eq_true_eq] at h
      rcases h with h | h | h | h <;> rw [h] at hl <;> simp at hl <;> omega
    · split at h
      · have := hn _ h; omega
      · have := hz _ h; omega
theorem fit_of {f : Fa} (h : FitW f) (h1 : f.co.size ≤ 1000000) (h2 : f.tx.size ≤ 1000000) : Fit f := ⟨h.id, h.pe, h.ki, h.fr, h.tO, h.nu, h1, h2⟩
set_option maxHeartbeats 4000000 in
set_option maxRecDepth 100000 in
theorem fc_CheckW (f : Fa) (w : World) (hf : FitW f) (hT : Tb w) : Calls Tryz.prog 97 #[valF f] w fun e w' => e = .returned (.int .i64 (chkF f)) ∧ Below w.heap.size w w' := by
  have hki := hf.ki
  have HF := Lib.hid hf
  have HT := Lib.hid hT
  clear hf hT
  obtain ⟨fb, hfb⟩ : ∃ x, w.heap.size = x := ⟨_, rfl⟩
  obtain ⟨wa, hwa⟩ : ∃ x, w.alloc (.cells #[.int .u32 f.id, .int .u32 f.pe, .int .i64 f.ki, .int .i64 f.fr, .int .i64 f.to, .string f.co, .int .i64 f.nu, .string f.tx] 160) = x := ⟨_, rfl⟩
  have hb0 : Bk fb 160 #[.int .u32 f.id, .int .u32 f.pe, .int .i64 f.ki, .int .i64 f.fr, .int .i64 f.to, .string f.co, .int .i64 f.nu, .string f.tx] wa := by rw [← hwa, ← hfb]; exact Bk.new _ _ _
  have hBA : Below w.heap.size w wa := by rw [← hwa]; exact bAlloc w _
  have HB0 := Lib.hid hb0
  have HBA := Lib.hid hBA
  have HTA : Hid (Tb wa) := Lib.hid (HT.out.below hBA)
  unfold valF
  go_enter Tryz.func97, Tryz.ntmps97
  have A2 : wa.cell? ⟨fb, 2, none⟩ = some (.int .i64 f.ki) := hb0.cell 2
  clear hb0 hBA
  go_upto_region 1 with fail
  clear hwa hfb
  go_wp2_with fail
  refine (fc_known _ _).mono ?_
  rintro e w1 ⟨rfl, rfl⟩
  by_cases hk : 1 ≤ f.ki ∧ f.ki ≤ 18
  · rw [decide_eq_true hk]
    obtain ⟨nm, cf, tf, hrv, hco, htx⟩ := rule_partsW f.ki hk.1 hk.2
    have HRV := Lib.hid hrv
    have HCO := Lib.hid hco
    have HTX := Lib.hid htx
    have HRA := Lib.hid (fun W => rules_at f.ki hk.1 hk.2 W)
    rw [hrv] at HRA
    have HK := Lib.hid hk
    clear hrv hco htx hk
    go_upto_region 3 with fail
    obtain ⟨RA, hRA⟩ : ∃ x, rulesA = x := ⟨_, rfl⟩
    rw [hRA] at HRA
    have HRU : Hid (∀ W, Calls Tryz.prog 124 #[] W fun e w' => e = .returned (.agg RA) ∧ Below W.heap.size W w') := Lib.hid (fun W => by have := fc_rules W; rw [hRA] at this; exact this)
    clear hRA
    go_cut [3] from 9 to 12 (fun pv wx => ∃ rb : Nat, pv = .pointer (some ⟨rb, 0, none⟩) ∧ Hid (Bk rb 185 #[.string nm, .bool (firmB f.ki), .bool (daysB f.ki), .func (.func cf) #[] #[], .int .i64 (lowN f.ki), .int .i64 (highN f.ki), .func (.func tf) #[] #[]] wx) ∧ Hid (Below wa.heap.size wa wx))
    case first =>
      have hix := HRA.out
      generalize firmB f.ki = fi at *
      generalize daysB f.ki = da at *
      generalize lowN f.ki = lo at *
      generalize highN f.ki = hi at *
      have KK : Hid (∀ W w', Grows wa W → Below W.heap.size W w' → w'.cell? ⟨fb, 2, none⟩ = some (.int .i64 f.ki)) := Lib.hid (fun W w' hW hb => by
        have h1 := HB0.out.grows hW
        have h2 : Bk fb 160 #[.int .u32 f.id, .int .u32 f.pe, .int .i64 f.ki, .int .i64 f.fr, .int .i64 f.to, .string f.co, .int .i64 f.nu, .string f.tx] w' := (hb.block fb h1.lt).trans h1
        exact h2.cell 2)
      have hlt := HB0.out.lt
      have hne : ¬ fb = wa.heap.size := by omega
      have HGD : Hid (Grows wa wa.drew) := Lib.hid (Grows.of_drew wa)
      have HGA : Hid (∀ o, Grows wa (wa.alloc o).drew) := Lib.hid (fun o => (Grows.of_alloc wa o).drew)
      have HNB : Hid (∀ w4, Below (wa.alloc (.cells #[.string ⟨#[]⟩, .bool false, .bool false, .nilFunc, .int .i64 0, .int .i64 0, .nilFunc] 185)).drew.heap.size (wa.alloc (.cells #[.string ⟨#[]⟩, .bool false, .bool false, .nilFunc, .int .i64 0, .int .i64 0, .nilFunc] 185)).drew w4 → Bk wa.heap.size 185 #[.string ⟨#[]⟩, .bool false, .bool false, .nilFunc, .int .i64 0, .int .i64 0, .nilFunc] w4 ∧ Below wa.heap.size wa w4) := Lib.hid (fun w4 h => ⟨(h.block wa.heap.size (size_new wa _)).trans (new_block wa _), bTrans (HGA.out _).below h⟩)
      have AA : ∀ o, (wa.alloc o).drew.cell? ⟨fb, 2, none⟩ = some (.int .i64 f.ki) := fun o => (HGA.out o).cell hlt A2
      go_region_with (first | (go_at_call 124; with_reducible refine (HRU.out wa.drew).mono ?_; rintro e' w4 ⟨rfl, hbA⟩; have A2 := KK.out _ _ HGD.out hbA; have hlt := cell_lt A2) | (go_at_call 124; refine (HRU.out _).mono ?_; rintro e' w4 ⟨rfl, hbB⟩; have z0 := (HNB.out _ hbB).1.cell 0; have z1 := (HNB.out _ hbB).1.cell 1; have z2 := (HNB.out _ hbB).1.cell 2; have z3 := (HNB.out _ hbB).1.cell 3; have z4 := (HNB.out _ hbB).1.cell 4; have z5 := (HNB.out _ hbB).1.cell 5; have z6 := (HNB.out _ hbB).1.cell 6; have y0 := (HNB.out _ hbB).1.frozen 0; have y1 := (HNB.out _ hbB).1.frozen 1; have y2 := (HNB.out _ hbB).1.frozen 2; have y3 := (HNB.out _ hbB).1.frozen 3; have y4 := (HNB.out _ hbB).1.frozen 4; have y5 := (HNB.out _ hbB).1.frozen 5; have y6 := (HNB.out _ hbB).1.frozen 6; have A2 := KK.out _ _ (HGA.out _) hbB; have hlt := cell_lt A2))
      all_goals (
        clear KK HRU HRA HRV
        go_wp2_with fail
        go_meet
        first
          | (have hr := ruleNew hbA nm fi da cf tf lo hi; refine ⟨w4.heap.size, rfl, Lib.hid hr.1, Lib.hid hr.2⟩)
          | (have hr := rule7 (HNB.out _ hbB).1 (HNB.out _ hbB).2 (Nat.le_refl _) nm fi da cf tf lo hi; refine ⟨wa.heap.size, rfl, Lib.hid hr.1, Lib.hid hr.2⟩))
    case rest =>
    obtain ⟨rb, rfl, HRB, HBC⟩ := hcut
    obtain ⟨w5, rfl⟩ : ∃ w5 : World, w5 = wc := ⟨_, rfl⟩
    have HDY := Lib.hid (fun W => fc_days f nm (firmB f.ki) cf tf (lowN f.ki) (highN f.ki) W)
    have hlh := lowhigh f.ki
    have HFI : Hid (∃ x, firmB f.ki = x) := Lib.hid ⟨_, rfl⟩
    have HCH : Hid (chkF f = if firmB f.ki ≠ decide (f.pe = 0) then 2 else if daysE f ≠ 0 then daysE f else if codeB f.ki (ls f.co) = false then 12 else if f.nu < lowN f.ki ∨ highN f.ki < f.nu then 2 else if 4096 < f.tx.size then 4 else if textB f.ki f.nu (ls f.tx) = false then 3 else 0) := Lib.hid (if_neg (by have := HK.out; omega))
    clear A2 HFI
    obtain ⟨fi, hfi⟩ : ∃ x, firmB f.ki = x := ⟨_, rfl⟩
    obtain ⟨da, hda⟩ : ∃ x, daysB f.ki = x := ⟨_, rfl⟩
    obtain ⟨lo, hlo⟩ : ∃ x, lowN f.ki = x := ⟨_, rfl⟩
    obtain ⟨hi, hhi⟩ : ∃ x, highN f.ki = x := ⟨_, rfl⟩
    obtain ⟨de, hde⟩ : ∃ x, daysE f = x := ⟨_, rfl⟩
    rw [hfi, hda, hlo, hhi] at HRB
    rw [hfi, hlo, hhi, hda, hde] at HDY
    rw [hfi, hlo, hhi, hde] at HCH
    rw [hlo, hhi] at hlh
    clear hfi hda hlo hhi hde HRV HRA HRU
    have HM : Hid (Bk fb 160 #[.int .u32 f.id, .int .u32 f.pe, .int .i64 f.ki, .int .i64 f.fr, .int .i64 f.to, .string f.co, .int .i64 f.nu, .string f.tx] w5 ∧ Bk rb 185 #[.string nm, .bool (fi), .bool (da), .func (.func cf) #[] #[], .int .i64 (lo), .int .i64 (hi), .func (.func tf) #[] #[]] w5 ∧ Below wa.heap.size wa w5) := Lib.hid ⟨(HBC.out.block fb HB0.out.lt).trans HB0.out, HRB.out, HBC.out⟩
    have HBE := Lib.hid (fun W (h : Below w5.heap.size w5 W) => bTrans HBA.out (bTrans HBC.out h))
    have HKEEP : Hid (∀ W, Below w5.heap.size w5 W → Bk fb 160 #[.int .u32 f.id, .int .u32 f.pe, .int .i64 f.ki, .int .i64 f.fr, .int .i64 f.to, .string f.co, .int .i64 f.nu, .string f.tx] W ∧ Bk rb 185 #[.string nm, .bool (fi), .bool (da), .func (.func cf) #[] #[], .int .i64 (lo), .int .i64 (hi), .func (.func tf) #[] #[]] W ∧ Below w5.heap.size w5 W) := Lib.hid (fun W h => ⟨(h.block fb HM.out.1.lt).trans HM.out.1, (h.block rb HM.out.2.1.lt).trans HM.out.2.1, h⟩)
    have HM0 := Lib.hid (HKEEP.out w5 (Below.refl _ _))
    clear HM HRB
    have F1 : w5.cell? ⟨fb, 1, none⟩ = some (.int .u32 f.pe) := HM0.out.1.cell 1
    have R1 : w5.cell? ⟨rb, 1, none⟩ = some (.bool (fi)) := HM0.out.2.1.cell 1
    by_cases hfm : fi ≠ decide (f.pe = 0)
    · have L : Hid (chkF f = 2) := Lib.hid (by rw [HCH.out, if_pos hfm])
      have bf : (fi == (f.pe == 0)) = false := beq_eq_false_iff_ne.2 hfm
      clear hfm
      go_wp2
      go_ret
      exact ⟨ret_i L.out.symm, HBE.out _ (Below.refl _ _)⟩
    have HC1 : Hid (chkF f = if de ≠ 0 then de else if codeB f.ki (ls f.co) = false then 12 else if f.nu < lo ∨ hi < f.nu then 2 else if 4096 < f.tx.size then 4 else if textB f.ki f.nu (ls f.tx) = false then 3 else 0) := Lib.hid (by rw [HCH.out, if_neg hfm])
    have bf : (fi == (f.pe == 0)) = true := beq_iff_eq.2 (Decidable.not_not.1 hfm)
    clear hfm
    go_upto_region 6 with fail
    have F0 : w5.cell? ⟨fb, 0, none⟩ = some (.int .u32 f.id) := HM0.out.1.cell 0
    have F2 : w5.cell? ⟨fb, 2, none⟩ = some (.int .i64 f.ki) := HM0.out.1.cell 2
    have F3 : w5.cell? ⟨fb, 3, none⟩ = some (.int .i64 f.fr) := HM0.out.1.cell 3
    have F4 : w5.cell? ⟨fb, 4, none⟩ = some (.int .i64 f.to) := HM0.out.1.cell 4
    have F5 : w5.cell? ⟨fb, 5, none⟩ = some (.string f.co) := HM0.out.1.cell 5
    have F6 : w5.cell? ⟨fb, 6, none⟩ = some (.int .i64 f.nu) := HM0.out.1.cell 6
    have F7 : w5.cell? ⟨fb, 7, none⟩ = some (.string f.tx) := HM0.out.1.cell 7
    have R0 : w5.cell? ⟨rb, 0, none⟩ = some (.string nm) := HM0.out.2.1.cell 0
    have R2 : w5.cell? ⟨rb, 2, none⟩ = some (.bool (da)) := HM0.out.2.1.cell 2
    have R3 : w5.cell? ⟨rb, 3, none⟩ = some (.func (.func cf) #[] #[]) := HM0.out.2.1.cell 3
    have R4 : w5.cell? ⟨rb, 4, none⟩ = some (.int .i64 (lo)) := HM0.out.2.1.cell 4
    have R5 : w5.cell? ⟨rb, 5, none⟩ = some (.int .i64 (hi)) := HM0.out.2.1.cell 5
    have R6 : w5.cell? ⟨rb, 6, none⟩ = some (.func (.func tf) #[] #[]) := HM0.out.2.1.cell 6
    unfold valF at HDY
    go_wp2_with fail
    refine (HDY.out _).mono ?_
    rintro e w6 ⟨rfl, hb6⟩
    have HM1 := Lib.hid (HKEEP.out w6 hb6)
    clear F0 F1 F2 F3 F4 F5 F6 F7 R0 R1 R2 R3 R4 R5 R6 hb6 bf
    by_cases hde : de = 0
    · have bd : (de != 0) = false := by rw [hde]; rfl
      have HC2 : Hid (chkF f = if codeB f.ki (ls f.co) = false then 12 else if f.nu < lo ∨ hi < f.nu then 2 else if 4096 < f.tx.size then 4 else if textB f.ki f.nu (ls f.tx) = false then 3 else 0) := Lib.hid (by rw [HC1.out, if_neg (fun h => h hde)])
      clear hde
      have F5 : w6.cell? ⟨fb, 5, none⟩ = some (.string f.co) := HM1.out.1.cell 5
      have R3 : w6.cell? ⟨rb, 3, none⟩ = some (.func (.func cf) #[] #[]) := HM1.out.2.1.cell 3
      have hec := HCO.out.enter
      go_upto_region 9 with fail
      go_cut [25] from 26 to 31 (fun q wx => q = .bool (!codeB f.ki (ls f.co)) ∧ Hid (Below w5.heap.size w5 wx))
      case first =>
        have HCC := Lib.hid (HCO.out.calls f.co)
        have hfco := HF.out.cO
        generalize codeB f.ki (ls f.co) = cb at *
        go_wp2_with fail
        refine (HCC.out _ hfco).mono ?_
        rintro e w7 ⟨rfl, hb7⟩
        have HB7 := Lib.hid (bTrans HM1.out.2.2 hb7)
        clear hb7
        go_wp2
        go_meet
        exact ⟨rfl, HB7⟩
      case rest =>
      obtain ⟨rfl, HB7⟩ := hcut
      obtain ⟨w7, rfl⟩ : ∃ w7 : World, w7 = wc := ⟨_, rfl⟩
      have HM2 := Lib.hid (HKEEP.out w7 HB7.out)
      clear F5 R3 hec
      have F6 : w7.cell? ⟨fb, 6, none⟩ = some (.int .i64 f.nu) := HM2.out.1.cell 6
      have F7 : w7.cell? ⟨fb, 7, none⟩ = some (.string f.tx) := HM2.out.1.cell 7
      have R4 : w7.cell? ⟨rb, 4, none⟩ = some (.int .i64 (lo)) := HM2.out.2.1.cell 4
      have R5 : w7.cell? ⟨rb, 5, none⟩ = some (.int .i64 (hi)) := HM2.out.2.1.cell 5
      obtain ⟨cb, hcb⟩ : ∃ x, codeB f.ki (ls f.co) = x := ⟨_, rfl⟩
      have HC3 : Hid (chkF f = if cb = false then 12 else if f.nu < lo ∨ hi < f.nu then 2 else if 4096 < f.tx.size then 4 else if textB f.ki f.nu (ls f.tx) = false then 3 else 0) := Lib.hid (by rw [HC2.out, hcb])
      rw [hcb]
      have HCBE := Lib.hid hcb
      clear hcb
      cases cb with
      | false =>
        have L : Hid (chkF f = 12) := Lib.hid (by rw [HC3.out]; rfl)
        go_wp2
        go_ret
        exact ⟨ret_i L.out.symm, HBE.out _ HB7.out⟩
      | true =>
        by_cases hlo : f.nu < lo
        · have L : Hid (chkF f = 2) := Lib.hid (by rw [HC3.out, if_neg (by simp), if_pos (.inl hlo)])
          go_wp2
          go_ret
          exact ⟨ret_i L.out.symm, HBE.out _ HB7.out⟩
        by_cases hhi : hi < f.nu
        · have L : Hid (chkF f = 2) := Lib.hid (by rw [HC3.out, if_neg (by simp), if_pos (.inr hhi)])
          go_wp2
          go_ret
          exact ⟨ret_i L.out.symm, HBE.out _ HB7.out⟩
        have htxs := HF.out.tX
        by_cases hlg : 4096 < (f.tx.size : Int)
        · have L : Hid (chkF f = 4) := Lib.hid (by rw [HC3.out, if_neg (by simp), if_neg (fun h => h.elim hlo hhi), if_pos (by omega)])
          go_wp2
          go_ret
          exact ⟨ret_i L.out.symm, HBE.out _ HB7.out⟩
        have HC4 : Hid (chkF f = if textB f.ki f.nu (ls f.tx) = false then 3 else 0) := Lib.hid (by rw [HC3.out, if_neg (by simp), if_neg (fun h => h.elim hlo hhi), if_neg (by omega)])
        go_upto_region 15 with fail
        clear F6 F7 R4 R5
        have F0 : w7.cell? ⟨fb, 0, none⟩ = some (.int .u32 f.id) := HM2.out.1.cell 0
        have F1 : w7.cell? ⟨fb, 1, none⟩ = some (.int .u32 f.pe) := HM2.out.1.cell 1
        have F2 : w7.cell? ⟨fb, 2, none⟩ = some (.int .i64 f.ki) := HM2.out.1.cell 2
        have F3 : w7.cell? ⟨fb, 3, none⟩ = some (.int .i64 f.fr) := HM2.out.1.cell 3
        have F4 : w7.cell? ⟨fb, 4, none⟩ = some (.int .i64 f.to) := HM2.out.1.cell 4
        have F5 : w7.cell? ⟨fb, 5, none⟩ = some (.string f.co) := HM2.out.1.cell 5
        have F6 : w7.cell? ⟨fb, 6, none⟩ = some (.int .i64 f.nu) := HM2.out.1.cell 6
        have F7 : w7.cell? ⟨fb, 7, none⟩ = some (.string f.tx) := HM2.out.1.cell 7
        have R6 : w7.cell? ⟨rb, 6, none⟩ = some (.func (.func tf) #[] #[]) := HM2.out.2.1.cell 6
        have hec := HTX.out.enter
        have HXC := Lib.hid (fun W hT => HTX.out.calls f W (fit_of HF.out (codeB_small HCBE.out) (by omega)) rfl hT)
        unfold valF at HXC
        obtain ⟨tb, htb⟩ : ∃ x, textB f.ki f.nu (ls f.tx) = x := ⟨_, rfl⟩
        rw [htb] at HXC HC4
        clear htb
        have T7 : Hid (Tb w7) := Lib.hid (HT.out.below (HBE.out _ HB7.out))
        go_wp2_with fail
        refine (HXC.out _ T7.out).mono ?_
        rintro e w8 ⟨rfl, hb8⟩
        have HB8 := Lib.hid (HBE.out _ (bTrans HB7.out hb8))
        clear hb8
        cases tb with
        | false =>
          have L : Hid (chkF f = 3) := Lib.hid (by rw [HC4.out]; rfl)
          go_wp2
          go_ret
          exact ⟨ret_i L.out.symm, HB8.out⟩
        | true =>
          have L : Hid (chkF f = 0) := Lib.hid (by rw [HC4.out]; rfl)
          go_wp2
          go_ret
          exact ⟨ret_i L.out.symm, HB8.out⟩
    · have bd : (de != 0) = true := bne_iff_ne.2 hde
      have L : Hid (chkF f = de) := Lib.hid (by rw [HC1.out, if_pos hde])
      clear hde
      go_wp2
      go_ret
      exact ⟨ret_i L.out.symm, HBE.out _ HM1.out.2.2⟩
  · have L : Hid (chkF f = 11) := Lib.hid (if_pos (by omega))
    rw [decide_eq_false hk]
    clear hk
    go_wp2
    go_ret
    exact ⟨ret_i L.out.symm, HBA.out⟩
end Go.Proofs.YtheaacliomfkoaaGreatDoor

namespace Go.Proofs.YtheaacliomfkoaaGreatDoor
open Go.RowKit Go.Sort

end Go.Proofs.YtheaacliomfkoaaGreatDoor

/- before: the small ones. -/
namespace Go.Proofs.YtheaacliomfkoaaGreatDoor
open Go.RowKit Go.Sort

theorem ce_Least (a b : Int) (w : World) : Calls Tryz.prog 69 #[.int .i64 a, .int .i64 b] w fun e w' => e = .returned (.int .i64 (min a b)) ∧ w = w' := by
  go_enter Tryz.func69, Tryz.ntmps69
  go_wp2
  go_ret
  exact ⟨rfl, rfl⟩
theorem ce_Greatest (a b : Int) (w : World) : Calls Tryz.prog 65 #[.int .i64 a, .int .i64 b] w fun e w' => e = .returned (.int .i64 (max a b)) ∧ w = w' := by
  go_enter Tryz.func65, Tryz.ntmps65
  go_wp2
  go_ret
  exact ⟨rfl, rfl⟩
/-- An amount from 0 to the most. -/
def amtB (c : Int) : Bool := decide (0 ≤ c ∧ c ≤ 1125899906842624)
theorem bf_right (c : Int) (w : World) : Calls Tryz.prog 68 #[.int .i64 c] w fun e w' => e = .returned (.bool (amtB c)) ∧ w = w' := by
  go_enter Tryz.func68, Tryz.ntmps68
  by_cases h : 0 ≤ c
  · by_cases h2 : c ≤ 1125899906842624
    · have HR : Hid (amtB c = true) := Lib.hid (decide_eq_true ⟨h, h2⟩)
      have d1 : decide ((0 : Int) ≤ c) = true := decide_eq_true h
      have d2 : decide (c ≤ 1125899906842624) = true := decide_eq_true h2
      go_wp2
      go_ret
      exact ⟨by rw [HR.out]; rfl, rfl⟩
    · have HR : Hid (amtB c = false) := Lib.hid (decide_eq_false fun k => h2 k.2)
      have d1 : decide ((0 : Int) ≤ c) = true := decide_eq_true h
      have d2 : decide (c ≤ 1125899906842624) = false := decide_eq_false h2
      go_wp2
      go_ret
      exact ⟨by rw [HR.out]; rfl, rfl⟩
  · have HR : Hid (amtB c = false) := Lib.hid (decide_eq_false fun k => h k.1)
    have d1 : decide ((0 : Int) ≤ c) = false := decide_eq_false h
    go_wp2
    go_ret
    exact ⟨by rw [HR.out]; rfl, rfl⟩
/-- A text that is a name, as a fact's are. -/
def nmB (s : ByteArray) : Bool := decide (chkF ⟨0, 1, 13, 0, 0, ByteArray.empty, 0, s⟩ = 0)
theorem bf_name (s : ByteArray) (w : World) (hs : s.size ≤ 9223372036854775807) (hT : Tb w) : Calls Tryz.prog 67 #[.string s] w fun e w' => e = .returned (.bool (nmB s)) ∧ Below w.heap.size w w' := by
  have H1 := Lib.hid (fun W => fun hW => fc_CheckW ⟨0, 1, 13, 0, 0, ByteArray.empty, 0, s⟩ W (by constructor <;> simp <;> omega) hW)
  go_enter Tryz.func67, Tryz.ntmps67
  have HT := Lib.hid hT
  clear hT hs
  go_wp2_with fail
  refine (H1.out _ HT.out).mono ?_
  rintro e w1 ⟨rfl, hB⟩
  have HB := Lib.hid hB
  clear hB
  go_wp2_with fail
  go_ret
  exact ⟨rfl, HB.out⟩

/-- What a limit (its part, its bound of the year) leaves of a gross. -/
def roomX (g most yearly now year : Int) : Int :=
  let a := if most = 1000000 then g else min g ((ofN g.toNat most.toNat : Int) - now)
  let b := if yearly = 0 then a else min a (yearly - year)
  max b 0
theorem bf_room (g most yearly now year : Int) (co : ByteArray) (w : World) (hg : 0 ≤ g ∧ g ≤ 1125899906842624) (hm : 0 ≤ most ∧ most ≤ 1000000) (hy : 0 ≤ yearly ∧ yearly ≤ 1125899906842624) (hn : 0 ≤ now ∧ now ≤ 1125899906842624) (hr : 0 ≤ year ∧ year ≤ 1125899906842624) :
    Calls Tryz.prog 70 #[.int .i64 g, .agg #[.string co, .int .i64 most, .int .i64 yearly], .int .i64 now, .int .i64 year] w fun e w' => e = .returned (.int .i64 (roomX g most yearly now year)) ∧ Below w.heap.size w w' := by
  obtain ⟨gn, rfl⟩ : ∃ n : Nat, g = n := ⟨g.toNat, by omega⟩
  obtain ⟨mn, rfl⟩ : ∃ n : Nat, most = n := ⟨most.toNat, by omega⟩
  have H1 := Lib.hid (fun W => rt_of gn mn W (by omega) (by omega))
  have hle := ofN_le gn mn (by omega)
  have w1 : IntKind.i64.wrap ((ofN gn mn : Int) - now) = (ofN gn mn : Int) - now := by rw [IntKind.wrap_i64]; omega
  have w2 : IntKind.i64.wrap (yearly - year) = yearly - year := by rw [IntKind.wrap_i64]; omega
  generalize hO : ofN gn mn = O at *
  obtain ⟨a, ha⟩ : ∃ a : Int, (if (mn : Int) = 1000000 then (gn : Int) else min (gn : Int) ((O : Int) - now)) = a := ⟨_, rfl⟩
  obtain ⟨b, hb⟩ : ∃ b : Int, (if yearly = 0 then a else min a (yearly - year)) = b := ⟨_, rfl⟩
  have HR : Hid (roomX gn mn yearly now year = max b 0) := Lib.hid (by unfold roomX; simp only [Int.toNat_natCast, hO, ha, hb])
  have HA := Lib.hid ha
  have HB := Lib.hid hb
  clear ha hb hO hle hg hm hy hn hr
  obtain ⟨fb, hfb⟩ : ∃ x, w.heap.size = x := ⟨_, rfl⟩
  obtain ⟨wa, hwa⟩ : ∃ x, w.alloc (.cells #[.string co, .int .i64 mn, .int .i64 yearly] 136) = x := ⟨_, rfl⟩
  have hb0 : Bk fb 136 #[.string co, .int .i64 mn, .int .i64 yearly] wa := by rw [← hwa, ← hfb]; exact Bk.new _ _ _
  have HBA : Hid (Below w.heap.size w wa) := Lib.hid (by rw [← hwa]; exact bAlloc w _)
  have hlt := hb0.lt
  have C1 : wa.cell? ⟨fb, 1, none⟩ = some (.int .i64 mn) := hb0.cell 1
  have C2 : wa.cell? ⟨fb, 2, none⟩ = some (.int .i64 yearly) := hb0.cell 2
  go_enter Tryz.func70, Tryz.ntmps70
  go_upto_region 1 with fail
  clear hwa hfb
  have HB0 := Lib.hid hb0
  clear hb0
  have KC : Hid (∀ W, Below wa.heap.size wa W → W.cell? ⟨fb, 2, none⟩ = some (.int .i64 yearly)) := Lib.hid fun W h => (h.cell (p := ⟨fb, 2, none⟩) hlt).trans C2
  go_upto_region 2 with fail
  by_cases h1 : (mn : Int) = 1000000
  · have e1 : a = gn := by have := HA.out; rw [if_pos h1] at this; exact this.symm
    subst e1
    have n1 : ((mn : Int) != 1000000) = false := by rw [h1]; rfl
    clear h1
    by_cases h2 : yearly = 0
    · have e2 : b = (gn : Int) := by have := HB.out; rw [if_pos h2] at this; exact this.symm
      subst e2
      subst h2
      go_upto_region 7 with fail
      go_wp2_with fail
      refine (ce_Greatest _ _ _).mono ?_
      rintro e w3 ⟨rfl, rfl⟩
      go_wp2_with fail
      go_ret
      exact ⟨by rw [HR.out, Int.max_eq_left (Int.natCast_nonneg gn)]; rfl, HBA.out⟩
    · have e2 : min (gn : Int) (yearly - year) = b := by have := HB.out; rw [if_neg h2] at this; exact this
      have n2 : (yearly != 0) = true := by simpa using h2
      go_wp2_with fail
      refine (ce_Least _ _ _).mono ?_
      rintro e w3 ⟨rfl, rfl⟩
      rw [e2]
      go_wp2_with fail
      refine (ce_Greatest _ _ _).mono ?_
      rintro e w3 ⟨rfl, rfl⟩
      go_wp2_with fail
      go_ret
      exact ⟨by rw [HR.out]; rfl, HBA.out⟩
  · have e1 : min (gn : Int) ((O : Int) - now) = a := by have := HA.out; rw [if_neg h1] at this; exact this
    have n1 : ((mn : Int) != 1000000) = true := by simpa using h1
    go_wp2_with fail
    refine (H1.out _).mono ?_
    rintro e w3 ⟨rfl, hW⟩
    have HW : Hid (Below w.heap.size w w3) := Lib.hid (bTrans HBA.out hW)
    have C3 := KC.out _ hW
    clear C2 hW
    go_wp2_with fail
    refine (ce_Least _ _ _).mono ?_
    rintro e w4 ⟨rfl, rfl⟩
    rw [e1]
    by_cases h2 : yearly = 0
    · have e2 : b = a := by have := HB.out; rw [if_pos h2] at this; exact this.symm
      subst e2
      subst h2
      go_wp2_with fail
      refine (ce_Greatest _ _ _).mono ?_
      rintro e w3 ⟨rfl, rfl⟩
      go_wp2_with fail
      go_ret
      exact ⟨by rw [HR.out]; rfl, HW.out⟩
    · have e2 : min a (yearly - year) = b := by have := HB.out; rw [if_neg h2] at this; exact this
      have n2 : (yearly != 0) = true := by simpa using h2
      go_wp2_with fail
      refine (ce_Least _ _ _).mono ?_
      rintro e w3 ⟨rfl, rfl⟩
      rw [e2]
      go_wp2_with fail
      refine (ce_Greatest _ _ _).mono ?_
      rintro e w3 ⟨rfl, rfl⟩
      go_wp2_with fail
      go_ret
      exact ⟨by rw [HR.out]; rfl, HW.out⟩
end Go.Proofs.YtheaacliomfkoaaGreatDoor

/- before.After: deductions behind tax. -/
namespace Go.Proofs.YtheaacliomfkoaaGreatDoor
open Go.RowKit Go.Sort Go.BigFrame

/-- An item: its code, its amount. -/
abbrev It := ByteArray × Int
def encI (x : It) : List Value := [.string x.1, .int .i64 x.2]
theorem encI_len (x : It) : (encI x).length = 2 := rfl
theorem encI_one (x : It) : ∀ u ∈ encI x, u.oneCell' = true := by
  intro u hu
  simp only [encI, List.mem_cons, List.not_mem_nil, or_false] at hu
  rcases hu with rfl | rfl <;> rfl
theorem itemInfo : (Tryz.prog.info? 70).map (fun i => (i.zero, i.size, i.bytes)) = some (some (.agg #[.string ByteArray.empty, .int .i64 0]), 2, 24) := by kernel_rfl
theorem newsI (x : It) (w : World) : ∀ j u, (encI x)[j]? = some u → (w.alloc (.cells #[.string x.1, .int .i64 x.2] 70)).cell? ⟨w.heap.size, j, none⟩ = some u := by
  intro j u hu
  have h := Bk.new w 70 #[.string x.1, .int .i64 x.2]
  rw [h.cell]
  simpa [encI] using hu
theorem grownBelowI {a b : World} {r : Option Nat} {B : Nat} (h : a.grownBy b r) (hr : ∀ k, r = some k → B ≤ k) (hB : B ≤ a.heap.size) : Below B a b :=
  ⟨h.os, h.tape, h.output, h.size, fun i hi => h.block i (Nat.lt_of_lt_of_le hi hB) (fun e => by have := hr i e.symm; omega)⟩
/-- Items taken of what is left, one behind the other. -/
def afterL (left : Int) : List It → List It × Int
  | [] => ([], left)
  | x :: l => if 0 < min x.2 left then ((x.1, min x.2 left) :: (afterL (left - min x.2 left) l).1, (afterL (left - min x.2 left) l).2) else afterL left l

set_option maxHeartbeats 1000000 in
set_option maxRecDepth 100000 in
theorem bf_After (l : List It) (left : Int) (A : Option Addr) (cap : Nat) (w : World) (hn : l.length ≤ 1000000) (hleft : left ≤ 9223372036854775807 ∧ -9223372036854775808 ≤ left) (hs : Sl encI 2 w w.heap.size A l) :
    Calls Tryz.prog 32 #[.int .i64 left, .slice A l.length cap] w fun e w' => ∃ v, e = .returned (.tuple #[v, .int .i64 (afterL left l).2]) ∧ Own encI 2 70 w.heap.size v (afterL left l).1 w' ∧ Below w.heap.size w w' := by
  go_enter Tryz.func32, Tryz.ntmps32
  have HS := Lib.hid hs
  have HL0 := Lib.hid hleft
  clear hs hleft
  go_wp2
  go_loopw [0, 6, 12] (fun lv ov iv wr => ∃ (sv : Value) (n : Nat) (acc : List It) (lf : Int), sv = ov ∧ n ≤ l.length ∧ iv = .int .i64 n ∧ lv = .int .i64 lf ∧ acc.length ≤ n ∧ Hid (lf ≤ 9223372036854775807 ∧ -9223372036854775808 ≤ lf) ∧ Hid (acc ++ (afterL lf (l.drop n)).1 = (afterL left l).1 ∧ (afterL lf (l.drop n)).2 = (afterL left l).2) ∧ Hid (Own encI 2 70 w.heap.size ov acc wr) ∧ Hid (Below w.heap.size w wr)) (fun _ _ iv _ => l.length - (intOf iv).toNat)
  case atStart => exact ⟨_, 0, [], left, rfl, Nat.zero_le _, rfl, rfl, Nat.le_refl _, HL0, Lib.hid (by simp), Lib.hid (by simpa using Own.nil _), Lib.hid (Below.refl _ _)⟩
  case round =>
    obtain ⟨ov, n, acc, lf, rfl, hn1, rfl, rfl, hacc, HL, HA, HO, HB⟩ := hrel
    by_cases hlt : n < l.length
    · obtain ⟨b, off, rfl, hB, hc⟩ := HS.out (by intro h; simp [h] at hlt)
      obtain ⟨⟨co, x⟩, hx⟩ : ∃ x, l[n]? = some x := ⟨_, List.getElem?_eq_getElem hlt⟩
      have C0 : wr.cell? ⟨b, off + n * 2, none⟩ = some (.string co) := (HB.out.cell (p := ⟨b, off + n * 2, none⟩) hB).trans (by simpa using hc n _ hx 0 _ rfl)
      have C1 : wr.cell? ⟨b, off + n * 2 + 1, none⟩ = some (.int .i64 x) := (HB.out.cell (p := ⟨b, off + n * 2 + 1, none⟩) hB).trans (hc n _ hx 1 _ rfl)
      have hdrop : l.drop n = (co, x) :: l.drop (n + 1) := by
        rw [List.drop_eq_getElem_cons hlt]
        congr 1
        have := List.getElem?_eq_getElem hlt
        rw [hx] at this
        exact (Option.some.inj this).symm
      have HD : Hid ((afterL lf (l.drop n)) = if 0 < min x lf then ((co, min x lf) :: (afterL (lf - min x lf) (l.drop (n + 1))).1, (afterL (lf - min x lf) (l.drop (n + 1))).2) else afterL lf (l.drop (n + 1))) := Lib.hid (by rw [hdrop]; rfl)
      have hbs := HB.out.size
      clear hc hx hdrop
      go_upto_region 5 with fail
      obtain ⟨fb, hfb⟩ : ∃ y, wr.heap.size = y := ⟨_, rfl⟩
      obtain ⟨wa, hwa⟩ : ∃ y, wr.alloc (.cells #[.string co, .int .i64 x] 70) = y := ⟨_, rfl⟩
      have hb0 : Bk fb 70 #[.string co, .int .i64 x] wa := by rw [← hwa, ← hfb]; exact Bk.new _ _ _
      have HB1 : Hid (Below w.heap.size w wa) := Lib.hid (HB.out.trans (by rw [← hwa]; exact (Grows.of_alloc wr _).below.mono hbs))
      have HO1 : Hid (Own encI 2 70 w.heap.size ov acc wa) := Lib.hid (by rw [← hwa]; exact HO.out.alloc _)
      have hbs1 := HB1.out.size
      have hlt1 := hb0.lt
      have D0 : wa.cell? ⟨fb, 0, none⟩ = some (.string co) := hb0.cell 0
      have D1 : wa.cell? ⟨fb, 1, none⟩ = some (.int .i64 x) := hb0.cell 1
      have hne : some fb ≠ ov.ownBlock := fun he => by have := (HO.out.lt he.symm).2; omega
      have HB0 := Lib.hid hb0
      rw [hwa, hfb]
      have hfw : w.heap.size ≤ fb := by rw [← hfb]; exact hbs
      clear hwa hb0 C0 C1 HO HB hbs
      go_wp2_with fail
      refine (ce_Least _ _ _).mono ?_
      rintro e w3 ⟨rfl, rfl⟩
      obtain ⟨c, hc⟩ : ∃ c, min x lf = c := ⟨_, rfl⟩
      rw [hc] at HD ⊢
      have HC := Lib.hid hc
      clear hc
      by_cases hp : 0 < c
      · have d1 : decide ((0 : Int) < c) = true := decide_eq_true hp
        have hle : c ≤ lf := by rw [← HC.out]; exact Int.min_le_right _ _
        have w1 : IntKind.i64.wrap (lf - c) = lf - c := by have := HL.out; rw [IntKind.wrap_i64]; omega
        have HL2 : Hid (lf - c ≤ 9223372036854775807 ∧ -9223372036854775808 ≤ lf - c) := Lib.hid (by have := HL.out; omega)
        have HD2 : Hid (afterL lf (l.drop n) = ((co, c) :: (afterL (lf - c) (l.drop (n + 1))).1, (afterL (lf - c) (l.drop (n + 1))).2)) := Lib.hid (by rw [HD.out, if_pos hp])
        have GA : Hid (∀ o, (wa.alloc o).cell? ⟨fb, 0, none⟩ = some (.string co)) := Lib.hid (fun o => (HB0.out.grows (Grows.of_alloc wa o)).cell 0)
        have HLE : acc.length + 1 ≤ 1000000000 := by omega
        clear hp hle hne D1
        go_upto_region 7 with fail
        go_wp2_with ((at_builtin; refine wpList_append_row encI_len encI_one rfl _ _ 41 rfl w.heap.size 70 _ 24 Tryz.underlying41 itemInfo rfl (by decide) _ acc (co, c) rfl (HO1.out.alloc _) wa.heap.size 1 rfl (newsI (co, c) wa) HLE (by decide) (Nat.le_trans hbs1 (Grows.of_alloc wa _).size) ?_))
        intro v9 w9 hown9 hgr9
        have HB9 : Hid (Below w.heap.size w w9) := Lib.hid (HB1.out.trans (((bAlloc wa _).mono hbs1).trans (grownBelowI hgr9 (fun k hk => (HO1.out.lt hk).1) (Nat.le_trans hbs1 (Grows.of_alloc wa _).size))))
        have HO9 := Lib.hid hown9
        clear hown9 hgr9
        go_wp2
        refine ⟨⟨_, n + 1, acc ++ [(co, c)], lf - c, rfl, by omega, by go_num, rfl, by simp; omega, HL2, Lib.hid ?_, HO9, HB9⟩, by simp [intOf]; omega⟩
        have h := HA.out
        rw [HD2.out] at h
        simpa [List.append_assoc] using h
      · have d1 : decide ((0 : Int) < c) = false := decide_eq_false hp
        have HD2 : Hid (afterL lf (l.drop n) = afterL lf (l.drop (n + 1))) := Lib.hid (by rw [HD.out, if_neg hp])
        clear hp
        go_wp2
        refine ⟨⟨_, n + 1, acc, lf, rfl, by omega, by go_num, rfl, by omega, HL, Lib.hid (by rw [← HD2.out]; exact HA.out), HO1, HB1⟩, by simp [intOf]; omega⟩
    · obtain rfl : n = l.length := by omega
      go_wp2
      go_ret2
      have h := HA.out
      rw [List.drop_length] at h
      simp only [afterL, List.append_nil] at h
      refine ⟨_, by rw [← h.2]; rfl, by rw [← h.1]; exact HO.out, HB.out⟩
end Go.Proofs.YtheaacliomfkoaaGreatDoor
