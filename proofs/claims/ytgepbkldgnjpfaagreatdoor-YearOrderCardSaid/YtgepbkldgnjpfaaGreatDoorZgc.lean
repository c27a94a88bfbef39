/- Out of: Chx Cbk Yb0 Yb1 Yb2 Yb3. -/
import Derived.Test.YtgepbkldgnjpfaaGreatDoorZga
import Derived.Test.YtgepbkldgnjpfaaGreatDoorZgb
import Derived.ChangeSame
import Derived.Deep.AppendLies
import Derived.Deep.Cut
import Derived.Deep.Fields
import Derived.Deep.RegionHeld3
import Derived.Deep.RegionHeldLaw
import Derived.Deep.RegionLaw
import Derived.Deep.Slices
import Derived.Deep.Upon
import Derived.Laws.CopyOwn
import Derived.Lib.SmallJoins
import Derived.OpenShut
import Derived.OwnWalk
import Derived.ProofKit
/- fact.Check and Store.Add at facts with texts of any size. (Out of Ltb.) -/
namespace Go.Proofs.YtgepbkldgnjpfaaGreatDoor
open Go.RowKit Go.Sort

set_option linter.unusedVariables false in
set_option maxHeartbeats 4000000 in
theorem fc_isNameW (s : ByteArray) (w : World) (hs : s.size ≤ 9223372036854775807) : Calls Tryz.prog 159 #[.string s] w fun e w' => e = .returned (.bool (nameB (ls s))) ∧ w = w' := by
  go_enter Tryz.func159, Tryz.ntmps159
  go_wp2
  go_loop [3, 4, 7] (fun _ _ iv => ∃ k : Nat, k ≤ s.size ∧ iv = .int .i64 k ∧ Hid (((ls s).take k).all nameC = true)) (fun _ _ iv => s.size - (intOf iv).toNat)
  case atStart => exact ⟨0, Nat.zero_le _, rfl, Lib.hid rfl⟩
  case round =>
    obtain ⟨k, hk, rfl, HP⟩ := hrel
    by_cases hlt : k < s.size
    · have hix := run_at (P := Tryz.prog) 9 Tryz.underlying9 s k hlt
      have hbd := byteAt_bd s k
      obtain ⟨b, hb, hcb⟩ := byte_some hlt
      have HB := Lib.hid hb
      have HC := Lib.hid hcb
      clear hb hcb
      generalize byteAt s k = c at *
      have hcl : (c < 45) ∨ (c = 45) ∨ (c = 46) ∨ (c = 47) ∨ (48 ≤ c ∧ c ≤ 57) ∨ (58 ≤ c ∧ c < 95) ∨ (c = 95) ∨ (c = 96) ∨ (97 ≤ c ∧ c ≤ 122) ∨ (122 < c) := by omega
      rcases hcl with hc | hc | hc | hc | hc | hc | hc | hc | hc | hc
      · have HX : Hid (nameC b = false) := Lib.hid (by have := HC.out; unfold nameC; simp; omega)
        have t1 : c < 97 := by omega
        have t2 : ¬ 122 < c := by omega
        have t3 : c < 48 := by omega
        have t4 : ¬ 57 < c := by omega
        have t5 : (c == 46) = false := beq_eq_false_iff_ne.2 (by omega)
        have t5n : (c != 46) = true := bne_iff_ne.2 (by omega)
        have t6 : (c == 95) = false := beq_eq_false_iff_ne.2 (by omega)
        have t6n : (c != 95) = true := bne_iff_ne.2 (by omega)
        have t7 : (c == 45) = false := beq_eq_false_iff_ne.2 (by omega)
        have t7n : (c != 45) = true := bne_iff_ne.2 (by omega)
        have HF := Lib.hid (nameB_bad (all_bad HB.out HX.out))
        go_wp2
        go_ret
        exact ⟨ret_b HF.out.symm, rfl⟩
      · have HX : Hid (nameC b = true) := Lib.hid (by have := HC.out; unfold nameC; simp; omega)
        subst hc
        have HN := Lib.hid (all_more HP.out HB.out HX.out)
        go_wp2
        go_round
        case rel => exact ⟨k + 1, by omega, by go_num, HN⟩
        case measure => simp [intOf]; omega
      · have HX : Hid (nameC b = true) := Lib.hid (by have := HC.out; unfold nameC; simp; omega)
        subst hc
        have HN := Lib.hid (all_more HP.out HB.out HX.out)
        go_wp2
        go_round
        case rel => exact ⟨k + 1, by omega, by go_num, HN⟩
        case measure => simp [intOf]; omega
      · have HX : Hid (nameC b = false) := Lib.hid (by have := HC.out; unfold nameC; simp; omega)
        subst hc
        have HF := Lib.hid (nameB_bad (all_bad HB.out HX.out))
        go_wp2
        go_ret
        exact ⟨ret_b HF.out.symm, rfl⟩
      · have HX : Hid (nameC b = true) := Lib.hid (by have := HC.out; unfold nameC; simp; omega)
        have t1 : c < 97 := by omega
        have t2 : ¬ 122 < c := by omega
        have t3 : ¬ c < 48 := by omega
        have t4 : ¬ 57 < c := by omega
        have t5 : (c == 46) = false := beq_eq_false_iff_ne.2 (by omega)
        have t5n : (c != 46) = true := bne_iff_ne.2 (by omega)
        have t6 : (c == 95) = false := beq_eq_false_iff_ne.2 (by omega)
        have t6n : (c != 95) = true := bne_iff_ne.2 (by omega)
        have t7 : (c == 45) = false := beq_eq_false_iff_ne.2 (by omega)
        have t7n : (c != 45) = true := bne_iff_ne.2 (by omega)
        have HN := Lib.hid (all_more HP.out HB.out HX.out)
        go_wp2
        go_round
        case rel => exact ⟨k + 1, by omega, by go_num, HN⟩
        case measure => simp [intOf]; omega
      · have HX : Hid (nameC b = false) := Lib.hid (by have := HC.out; unfold nameC; simp; omega)
        have t1 : c < 97 := by omega
        have t2 : ¬ 122 < c := by omega
        have t3 : ¬ c < 48 := by omega
        have t4 : 57 < c := by omega
        have t5 : (c == 46) = false := beq_eq_false_iff_ne.2 (by omega)
        have t5n : (c != 46) = true := bne_iff_ne.2 (by omega)
        have t6 : (c == 95) = false := beq_eq_false_iff_ne.2 (by omega)
        have t6n : (c != 95) = true := bne_iff_ne.2 (by omega)
        have t7 : (c == 45) = false := beq_eq_false_iff_ne.2 (by omega)
        have t7n : (c != 45) = true := bne_iff_ne.2 (by omega)
        have HF := Lib.hid (nameB_bad (all_bad HB.out HX.out))
        go_wp2
        go_ret
        exact ⟨ret_b HF.out.symm, rfl⟩
      · have HX : Hid (nameC b = true) := Lib.hid (by have := HC.out; unfold nameC; simp; omega)
        subst hc
        have HN := Lib.hid (all_more HP.out HB.out HX.out)
        go_wp2
        go_round
        case rel => exact ⟨k + 1, by omega, by go_num, HN⟩
        case measure => simp [intOf]; omega
      · have HX : Hid (nameC b = false) := Lib.hid (by have := HC.out; unfold nameC; simp; omega)
        subst hc
        have HF := Lib.hid (nameB_bad (all_bad HB.out HX.out))
        go_wp2
        go_ret
        exact ⟨ret_b HF.out.symm, rfl⟩
      · have HX : Hid (nameC b = true) := Lib.hid (by have := HC.out; unfold nameC; simp; omega)
        have t1 : ¬ c < 97 := by omega
        have t2 : ¬ 122 < c := by omega
        have t3 : ¬ c < 48 := by omega
        have t4 : 57 < c := by omega
        have t5 : (c == 46) = false := beq_eq_false_iff_ne.2 (by omega)
        have t5n : (c != 46) = true := bne_iff_ne.2 (by omega)
        have t6 : (c == 95) = false := beq_eq_false_iff_ne.2 (by omega)
        have t6n : (c != 95) = true := bne_iff_ne.2 (by omega)
        have t7 : (c == 45) = false := beq_eq_false_iff_ne.2 (by omega)
        have t7n : (c != 45) = true := bne_iff_ne.2 (by omega)
        have HN := Lib.hid (all_more HP.out HB.out HX.out)
        go_wp2
        go_round
        case rel => exact ⟨k + 1, by omega, by go_num, HN⟩
        case measure => simp [intOf]; omega
      · have HX : Hid (nameC b = false) := Lib.hid (by have := HC.out; unfold nameC; simp; omega)
        have t1 : ¬ c < 97 := by omega
        have t2 : 122 < c := by omega
        have t3 : ¬ c < 48 := by omega
        have t4 : 57 < c := by omega
        have t5 : (c == 46) = false := beq_eq_false_iff_ne.2 (by omega)
        have t5n : (c != 46) = true := bne_iff_ne.2 (by omega)
        have t6 : (c == 95) = false := beq_eq_false_iff_ne.2 (by omega)
        have t6n : (c != 95) = true := bne_iff_ne.2 (by omega)
        have t7 : (c == 45) = false := beq_eq_false_iff_ne.2 (by omega)
        have t7n : (c != 45) = true := bne_iff_ne.2 (by omega)
        have HF := Lib.hid (nameB_bad (all_bad HB.out HX.out))
        go_wp2
        go_ret
        exact ⟨ret_b HF.out.symm, rfl⟩
    · obtain rfl : k = s.size := by omega
      have HF : Hid ((ls s).all nameC = true) := Lib.hid (by have := HP.out; rwa [List.take_of_length_le (by rw [ls_len]; omega)] at this)
      by_cases h0 : s.size = 0
      · have he : s.toList.isEmpty = true := by rw [isEmpty_ls, (nil_iff s).2 h0]; rfl
        have HR : Hid (nameB (ls s) = false) := Lib.hid (by rw [(nil_iff s).2 h0]; rfl)
        go_wp2
        go_ret
        exact ⟨ret_b HR.out.symm, rfl⟩
      have he : s.toList.isEmpty = false := by rw [isEmpty_ls]; simpa using fun h => h0 ((nil_iff s).1 h)
      by_cases h1 : ls s = [45]
      · have hd : (s.toList == [45]) = true := by rw [beq_ls]; exact decide_eq_true h1
        have HR : Hid (nameB (ls s) = false) := Lib.hid (by rw [h1]; rfl)
        clear h1
        go_wp2
        go_ret
        exact ⟨ret_b HR.out.symm, rfl⟩
      have hd : (s.toList == [45]) = false := by rw [beq_ls]; exact decide_eq_false h1
      have HR : Hid (nameB (ls s) = decide (s.size ≤ 32)) := Lib.hid (by
        rw [nameB_of HF.out, ← ls_len]
        have e1 : (ls s == []) = false := by simpa using fun h => h0 ((nil_iff s).1 h)
        have e2 : (ls s == [45]) = false := by simpa using h1
        rw [e1, e2]; rfl)
      clear h1
      by_cases hq : (s.size : Int) ≤ 32
      · go_wp2
        go_ret
        exact ⟨ret_b (by rw [HR.out]; simp; omega), rfl⟩
      · go_wp2
        go_ret
        exact ⟨ret_b (by rw [HR.out]; simp; omega), rfl⟩
end Go.Proofs.YtgepbkldgnjpfaaGreatDoor

namespace Go.Proofs.YtgepbkldgnjpfaaGreatDoor
open Go.RowKit Go.Sort

end Go.Proofs.YtgepbkldgnjpfaaGreatDoor

/- fact.Check at a bank's name, of any size (the one kind of fact that package year asks about). -/
namespace Go.Proofs.YtgepbkldgnjpfaaGreatDoor
open Go.RowKit Go.Sort

def bkF (s : ByteArray) : Fa := ⟨0, 1, 13, 0, 0, ByteArray.empty, 0, s⟩
/-- What is wrong with a bank's name. -/
def chkN (s : ByteArray) : Int := if 4096 < s.size then 4 else if nameB (ls s) = false then 3 else 0
theorem chkN_eq (s : ByteArray) : decide (chkN s = 0) = nameB (ls s) := by
  unfold chkN
  by_cases h2 : 4096 < s.size
  · rw [if_pos h2]
    have : nameB (ls s) = false := by
      unfold nameB
      have : decide ((ls s).length ≤ 32) = false := decide_eq_false (by rw [ls_len]; omega)
      rw [this, Bool.and_false]
    rw [this]; rfl
  · rw [if_neg h2]
    cases nameB (ls s) <;> rfl
theorem fc_nameW (s co : ByteArray) (w : World) (hs : s.size ≤ 9223372036854775807) : Calls Tryz.prog 160 #[.agg #[.int .u32 0, .int .u32 1, .int .i64 13, .int .i64 0, .int .i64 0, .string co, .int .i64 0, .string s]] w fun e w' => e = .returned (.bool (nameB (ls s))) ∧ Below w.heap.size w w' := by
  have HN := Lib.hid (fun W => fc_isNameW s W hs)
  go_enter Tryz.func160, Tryz.ntmps160
  go_wp2_with fail
  refine (HN.out _).mono ?_
  rintro e w1 ⟨rfl, hb⟩
  subst hb
  go_wp2
  go_ret
  exact ⟨rfl, bAlloc w _⟩
set_option maxHeartbeats 4000000 in
set_option maxRecDepth 100000 in
theorem fc_CheckN (s : ByteArray) (w : World) (hs : s.size ≤ 9223372036854775807) : Calls Tryz.prog 98 #[valF (bkF s)] w fun e w' => e = .returned (.int .i64 (chkN s)) ∧ Below w.heap.size w w' := by
  obtain ⟨nm, fi, da, cf, tf, lo, hi, hfi, hda, hcf, htf, hlo, hhi, hrv⟩ : ∃ (nm : ByteArray) (fi da : Bool) (cf tf : Nat) (lo hi : Int), fi = false ∧ da = true ∧ cf = 164 ∧ tf = 160 ∧ lo = 0 ∧ hi = 0 ∧ ruleV 13 = #[.string nm, .bool fi, .bool da, .func (.func cf) #[] #[], .int .i64 lo, .int .i64 hi, .func (.func tf) #[] #[]] := ⟨_, _, _, _, _, _, _, rfl, rfl, rfl, rfl, rfl, rfl, rfl⟩
  have HFI := Lib.hid hfi
  have HDA := Lib.hid hda
  have HLO := Lib.hid hlo
  have HHI := Lib.hid hhi
  have HCF := Lib.hid hcf
  have HTF := Lib.hid htf
  clear hfi hda hlo hhi hcf htf
  have hd : daysE (bkF s) = 0 := by unfold daysE daysB bkF; simp
  have hdB : daysB (bkF s).ki = true := show daysB 13 = true by decide
  have hdy : ∀ W, Calls Tryz.prog 136 #[.agg #[.int .u32 0, .int .u32 1, .int .i64 13, .int .i64 0, .int .i64 0, .string ByteArray.empty, .int .i64 0, .string s], .agg #[.string nm, .bool false, .bool true, .func (.func cf) #[] #[], .int .i64 0, .int .i64 0, .func (.func tf) #[] #[]]] W fun e w' => e = .returned (.int .i64 0) ∧ Below W.heap.size W w' := fun W => by
    have h := fc_days (bkF s) nm false cf tf 0 0 W
    rw [hd, hdB] at h
    exact h
  obtain ⟨co, hco⟩ : ∃ x, ByteArray.empty = x := ⟨_, rfl⟩
  have hcb : (ls co == []) = true := by rw [← hco]; rfl
  unfold bkF valF
  simp only [hco] at hdy ⊢
  clear hd hdB hco
  have HDY := Lib.hid hdy
  clear hdy
  obtain ⟨fb, hfb⟩ : ∃ x, w.heap.size = x := ⟨_, rfl⟩
  obtain ⟨wa, hwa⟩ : ∃ x, w.alloc (.cells #[.int .u32 0, .int .u32 1, .int .i64 13, .int .i64 0, .int .i64 0, .string co, .int .i64 0, .string s] 162) = x := ⟨_, rfl⟩
  have hb0 : Bk fb 162 #[.int .u32 0, .int .u32 1, .int .i64 13, .int .i64 0, .int .i64 0, .string co, .int .i64 0, .string s] wa := by rw [← hwa, ← hfb]; exact Bk.new _ _ _
  have hBA : Below w.heap.size w wa := by rw [← hwa]; exact bAlloc w _
  have HB0 := Lib.hid hb0
  have HBA := Lib.hid hBA
  go_enter Tryz.func98, Tryz.ntmps98
  have A2 : wa.cell? ⟨fb, 2, none⟩ = some (.int .i64 13) := hb0.cell 2
  clear hb0 hBA
  go_upto_region 1 with fail
  clear hwa hfb
  go_wp2_with fail
  refine (fc_known _ _).mono ?_
  rintro e w1 ⟨rfl, rfl⟩
  rw [decide_eq_true (by omega)]
  have HRA := Lib.hid (fun W => rules_at 13 (by omega) (by omega) W)
  rw [hrv] at HRA
  clear hrv
  go_upto_region 3 with fail
  obtain ⟨RA, hRA⟩ : ∃ x, rulesA = x := ⟨_, rfl⟩
  rw [hRA] at HRA
  have HRU : Hid (∀ W, Calls Tryz.prog 135 #[] W fun e w' => e = .returned (.agg RA) ∧ Below W.heap.size W w') := Lib.hid (fun W => by have := fc_rules W; rw [hRA] at this; exact this)
  clear hRA
  go_cut [3] from 9 to 12 (fun pv wx => ∃ rb : Nat, pv = .pointer (some ⟨rb, 0, none⟩) ∧ Hid (Bk rb 194 #[.string nm, .bool fi, .bool da, .func (.func cf) #[] #[], .int .i64 lo, .int .i64 hi, .func (.func tf) #[] #[]] wx) ∧ Hid (Below wa.heap.size wa wx))
  case first =>
    have hix := HRA.out
    have KK : Hid (∀ W w', Grows wa W → Below W.heap.size W w' → w'.cell? ⟨fb, 2, none⟩ = some (.int .i64 13)) := Lib.hid (fun W w' hW hb => by
      have h1 := HB0.out.grows hW
      have h2 : Bk fb 162 #[.int .u32 0, .int .u32 1, .int .i64 13, .int .i64 0, .int .i64 0, .string co, .int .i64 0, .string s] w' := (hb.block fb h1.lt).trans h1
      exact h2.cell 2)
    have hlt := HB0.out.lt
    have hne : ¬ fb = wa.heap.size := by omega
    have HGD : Hid (Grows wa wa.drew) := Lib.hid (Grows.of_drew wa)
    have HGA : Hid (∀ o, Grows wa (wa.alloc o).drew) := Lib.hid (fun o => (Grows.of_alloc wa o).drew)
    have HNB : Hid (∀ w4, Below (wa.alloc (.cells #[.string ⟨#[]⟩, .bool false, .bool false, .nilFunc, .int .i64 0, .int .i64 0, .nilFunc] 194)).drew.heap.size (wa.alloc (.cells #[.string ⟨#[]⟩, .bool false, .bool false, .nilFunc, .int .i64 0, .int .i64 0, .nilFunc] 194)).drew w4 → Bk wa.heap.size 194 #[.string ⟨#[]⟩, .bool false, .bool false, .nilFunc, .int .i64 0, .int .i64 0, .nilFunc] w4 ∧ Below wa.heap.size wa w4) := Lib.hid (fun w4 h => ⟨(h.block wa.heap.size (size_new wa _)).trans (new_block wa _), bTrans (HGA.out _).below h⟩)
    have AA : ∀ o, (wa.alloc o).drew.cell? ⟨fb, 2, none⟩ = some (.int .i64 13) := fun o => (HGA.out o).cell hlt A2
    go_region_with (first | (go_at_call 135; with_reducible refine (HRU.out wa.drew).mono ?_; rintro e' w4 ⟨rfl, hbA⟩; have A2 := KK.out _ _ HGD.out hbA; have hlt := cell_lt A2) | (go_at_call 135; refine (HRU.out _).mono ?_; rintro e' w4 ⟨rfl, hbB⟩; have z0 := (HNB.out _ hbB).1.cell 0; have z1 := (HNB.out _ hbB).1.cell 1; have z2 := (HNB.out _ hbB).1.cell 2; have z3 := (HNB.out _ hbB).1.cell 3; have z4 := (HNB.out _ hbB).1.cell 4; have z5 := (HNB.out _ hbB).1.cell 5; have z6 := (HNB.out _ hbB).1.cell 6; have y0 := (HNB.out _ hbB).1.frozen 0; have y1 := (HNB.out _ hbB).1.frozen 1; have y2 := (HNB.out _ hbB).1.frozen 2; have y3 := (HNB.out _ hbB).1.frozen 3; have y4 := (HNB.out _ hbB).1.frozen 4; have y5 := (HNB.out _ hbB).1.frozen 5; have y6 := (HNB.out _ hbB).1.frozen 6; have A2 := KK.out _ _ (HGA.out _) hbB; have hlt := cell_lt A2))
    all_goals (
      clear KK HRU HRA
      go_wp2_with fail
      go_meet
      first
        | (have hr := ruleNew hbA nm fi da cf tf lo hi; refine ⟨w4.heap.size, rfl, Lib.hid hr.1, Lib.hid hr.2⟩)
        | (have hr := rule7 (HNB.out _ hbB).1 (HNB.out _ hbB).2 (Nat.le_refl _) nm fi da cf tf lo hi; refine ⟨wa.heap.size, rfl, Lib.hid hr.1, Lib.hid hr.2⟩))
  case rest =>
  obtain ⟨rb, rfl, HRB, HBC⟩ := hcut
  obtain ⟨w5, rfl⟩ : ∃ w5 : World, w5 = wc := ⟨_, rfl⟩
  clear A2 HRA HRU
  rw [HFI.out, HDA.out, HLO.out, HHI.out] at HRB
  have HBE := Lib.hid (fun W (h : Below w5.heap.size w5 W) => bTrans HBA.out (bTrans HBC.out h))
  have HF : Hid (Bk fb 162 #[.int .u32 0, .int .u32 1, .int .i64 13, .int .i64 0, .int .i64 0, .string co, .int .i64 0, .string s] w5) := Lib.hid ((HBC.out.block fb HB0.out.lt).trans HB0.out)
  have HK1 : Hid (∀ W, Below w5.heap.size w5 W → Bk fb 162 #[.int .u32 0, .int .u32 1, .int .i64 13, .int .i64 0, .int .i64 0, .string co, .int .i64 0, .string s] W) := Lib.hid (fun W h => (h.block fb HF.out.lt).trans HF.out)
  have HK2 : Hid (∀ W, Below w5.heap.size w5 W → Bk rb 194 #[.string nm, .bool false, .bool true, .func (.func cf) #[] #[], .int .i64 0, .int .i64 0, .func (.func tf) #[] #[]] W) := Lib.hid (fun W h => (h.block rb HRB.out.lt).trans HRB.out)
  have F1 : w5.cell? ⟨fb, 1, none⟩ = some (.int .u32 1) := HF.out.cell 1
  have R1 : w5.cell? ⟨rb, 1, none⟩ = some (.bool false) := HRB.out.cell 1
  have F0 : w5.cell? ⟨fb, 0, none⟩ = some (.int .u32 0) := HF.out.cell 0
  have F2 : w5.cell? ⟨fb, 2, none⟩ = some (.int .i64 13) := HF.out.cell 2
  have F3 : w5.cell? ⟨fb, 3, none⟩ = some (.int .i64 0) := HF.out.cell 3
  have F4 : w5.cell? ⟨fb, 4, none⟩ = some (.int .i64 0) := HF.out.cell 4
  have F5 : w5.cell? ⟨fb, 5, none⟩ = some (.string co) := HF.out.cell 5
  have F6 : w5.cell? ⟨fb, 6, none⟩ = some (.int .i64 0) := HF.out.cell 6
  have F7 : w5.cell? ⟨fb, 7, none⟩ = some (.string s) := HF.out.cell 7
  have R0 : w5.cell? ⟨rb, 0, none⟩ = some (.string nm) := HRB.out.cell 0
  have R2 : w5.cell? ⟨rb, 2, none⟩ = some (.bool true) := HRB.out.cell 2
  have R3 : w5.cell? ⟨rb, 3, none⟩ = some (.func (.func cf) #[] #[]) := HRB.out.cell 3
  have R4 : w5.cell? ⟨rb, 4, none⟩ = some (.int .i64 0) := HRB.out.cell 4
  have R5 : w5.cell? ⟨rb, 5, none⟩ = some (.int .i64 0) := HRB.out.cell 5
  have R6 : w5.cell? ⟨rb, 6, none⟩ = some (.func (.func tf) #[] #[]) := HRB.out.cell 6
  go_upto_region 6 with fail
  go_wp2_with fail
  refine (HDY.out _).mono ?_
  rintro e w6 ⟨rfl, hb6⟩
  have HB6 := Lib.hid hb6
  clear F0 F1 F2 F3 F4 F5 F6 F7 R0 R1 R2 R3 R4 R5 R6 hb6
  have F5 : w6.cell? ⟨fb, 5, none⟩ = some (.string co) := (HK1.out _ HB6.out).cell 5
  have R3 : w6.cell? ⟨rb, 3, none⟩ = some (.func (.func cf) #[] #[]) := (HK2.out _ HB6.out).cell 3
  have hec : ∀ args W, (callFunc cf args).run Tryz.prog W = .ok (.enter cf args) W := by rw [HCF.out]; exact fun _ _ => by kernel_rfl
  go_upto_region 9 with fail
  go_cut [25] from 26 to 31 (fun q wx => q = .bool false ∧ Hid (Below w5.heap.size w5 wx))
  case first =>
    have HCC : Hid (∀ W, Calls Tryz.prog cf #[.string co] W fun e w' => e = .returned (.bool true) ∧ Below W.heap.size W w') := Lib.hid (fun W => by have h := same_below (fc_empty co W); rw [hcb] at h; rw [HCF.out]; exact h)
    go_wp2_with fail
    refine (HCC.out _).mono ?_
    rintro e w7 ⟨rfl, hb7⟩
    have HB7 := Lib.hid (bTrans HB6.out hb7)
    clear hb7
    go_wp2
    go_meet
    exact ⟨rfl, HB7⟩
  case rest =>
  obtain ⟨rfl, HB7⟩ := hcut
  obtain ⟨w7, rfl⟩ : ∃ w7 : World, w7 = wc := ⟨_, rfl⟩
  have HM1 := Lib.hid (HK1.out w7 HB7.out)
  have HM2 := Lib.hid (HK2.out w7 HB7.out)
  clear F5 R3 hec
  have F6 : w7.cell? ⟨fb, 6, none⟩ = some (.int .i64 0) := HM1.out.cell 6
  have F7 : w7.cell? ⟨fb, 7, none⟩ = some (.string s) := HM1.out.cell 7
  have R4 : w7.cell? ⟨rb, 4, none⟩ = some (.int .i64 0) := HM2.out.cell 4
  have R5 : w7.cell? ⟨rb, 5, none⟩ = some (.int .i64 0) := HM2.out.cell 5
  by_cases hlg : 4096 < (s.size : Int)
  · have L : Hid (chkN s = 4) := Lib.hid (if_pos (by omega))
    go_wp2
    go_ret
    exact ⟨ret_i L.out.symm, HBE.out _ HB7.out⟩
  have HC4 : Hid (chkN s = if nameB (ls s) = false then 3 else 0) := Lib.hid (if_neg (by omega))
  go_upto_region 15 with fail
  clear F6 F7 R4 R5
  have F0 : w7.cell? ⟨fb, 0, none⟩ = some (.int .u32 0) := HM1.out.cell 0
  have F1 : w7.cell? ⟨fb, 1, none⟩ = some (.int .u32 1) := HM1.out.cell 1
  have F2 : w7.cell? ⟨fb, 2, none⟩ = some (.int .i64 13) := HM1.out.cell 2
  have F3 : w7.cell? ⟨fb, 3, none⟩ = some (.int .i64 0) := HM1.out.cell 3
  have F4 : w7.cell? ⟨fb, 4, none⟩ = some (.int .i64 0) := HM1.out.cell 4
  have F5 : w7.cell? ⟨fb, 5, none⟩ = some (.string co) := HM1.out.cell 5
  have F6 : w7.cell? ⟨fb, 6, none⟩ = some (.int .i64 0) := HM1.out.cell 6
  have F7 : w7.cell? ⟨fb, 7, none⟩ = some (.string s) := HM1.out.cell 7
  have R6 : w7.cell? ⟨rb, 6, none⟩ = some (.func (.func tf) #[] #[]) := HM2.out.cell 6
  have hec : ∀ args W, (callFunc tf args).run Tryz.prog W = .ok (.enter tf args) W := by rw [HTF.out]; exact fun _ _ => by kernel_rfl
  have HXC := Lib.hid (fun W => HTF.out ▸ fc_nameW s co W hs)
  obtain ⟨tb, htb⟩ : ∃ x, nameB (ls s) = x := ⟨_, rfl⟩
  rw [htb] at HXC HC4
  clear htb
  go_wp2_with fail
  refine (HXC.out _).mono ?_
  rintro e w8 ⟨rfl, hb8⟩
  have HB8 := Lib.hid (HBE.out _ (bTrans HB7.out hb8))
  clear hb8
  cases tb with
  | false =>
    have L : Hid (chkN s = 3) := Lib.hid (by rw [HC4.out]; rfl)
    go_wp2
    go_ret
    exact ⟨ret_i L.out.symm, HB8.out⟩
  | true =>
    have L : Hid (chkN s = 0) := Lib.hid (by rw [HC4.out]; rfl)
    go_wp2
    go_ret
    exact ⟨ret_i L.out.symm, HB8.out⟩
end Go.Proofs.YtgepbkldgnjpfaaGreatDoor

/- before: the small ones. -/
namespace Go.Proofs.YtgepbkldgnjpfaaGreatDoor
open Go.RowKit Go.Sort

theorem ce_Least (a b : Int) (w : World) : Calls Tryz.prog 75 #[.int .i64 a, .int .i64 b] w fun e w' => e = .returned (.int .i64 (min a b)) ∧ w = w' := by
  go_enter Tryz.func75, Tryz.ntmps75
  go_wp2
  go_ret
  exact ⟨rfl, rfl⟩
theorem ce_Greatest (a b : Int) (w : World) : Calls Tryz.prog 71 #[.int .i64 a, .int .i64 b] w fun e w' => e = .returned (.int .i64 (max a b)) ∧ w = w' := by
  go_enter Tryz.func71, Tryz.ntmps71
  go_wp2
  go_ret
  exact ⟨rfl, rfl⟩
/-- An amount from 0 to the most. -/
def amtB (c : Int) : Bool := decide (0 ≤ c ∧ c ≤ 1125899906842624)
theorem bf_right (c : Int) (w : World) : Calls Tryz.prog 74 #[.int .i64 c] w fun e w' => e = .returned (.bool (amtB c)) ∧ w = w' := by
  go_enter Tryz.func74, Tryz.ntmps74
  by_cases h : 0 ≤ c
  · by_cases h2 : c ≤ 1125899906842624
    · have HR : Hid (amtB c = true) := Lib.hid (decide_eq_true ⟨h, h2⟩)
      have d1 : decide ((0 : Int) ≤ c) = true := decide_eq_true h
      have d2 : decide (c ≤ 1125899906842624) = true := decide_eq_true h2
      go_wp2
      go_ret
      exact ⟨by rw [HR.out]; rfl, rfl⟩
    · have HR : Hid (amtB c = false) := Lib.hid (decide_eq_false fun k => h2 k.2)
      have d1 : decide ((0 : Int) ≤ c) = true := decide_eq_true h
      have d2 : decide (c ≤ 1125899906842624) = false := decide_eq_false h2
      go_wp2
      go_ret
      exact ⟨by rw [HR.out]; rfl, rfl⟩
  · have HR : Hid (amtB c = false) := Lib.hid (decide_eq_false fun k => h k.1)
    have d1 : decide ((0 : Int) ≤ c) = false := decide_eq_false h
    go_wp2
    go_ret
    exact ⟨by rw [HR.out]; rfl, rfl⟩
/-- A text that is a name, as a fact's are. -/
def nmB (s : ByteArray) : Bool := nameB (ls s)
theorem bf_name (s : ByteArray) (w : World) (hs : s.size ≤ 9223372036854775807) (hT : Tb w) : Calls Tryz.prog 73 #[.string s] w fun e w' => e = .returned (.bool (nmB s)) ∧ Below w.heap.size w w' := by
  have H1 := Lib.hid (fun W => fc_CheckN s W hs)
  have HQ : Hid (decide (chkN s = 0) = nmB s) := Lib.hid (chkN_eq s)
  unfold bkF valF at H1
  go_enter Tryz.func73, Tryz.ntmps73
  have HT := Lib.hid hT
  clear hT hs
  go_wp2_with fail
  refine (H1.out _).mono ?_
  rintro e w1 ⟨rfl, hB⟩
  have HB := Lib.hid hB
  clear hB
  go_wp2_with fail
  go_ret
  exact ⟨by rw [← HQ.out]; rfl, HB.out⟩

/-- What a limit (its part, its bound of the year) leaves of a gross. -/
def roomX (g most yearly now year : Int) : Int :=
  let a := if most = 1000000 then g else min g ((ofN g.toNat most.toNat : Int) - now)
  let b := if yearly = 0 then a else min a (yearly - year)
  max b 0
theorem bf_room (g most yearly now year : Int) (co : ByteArray) (w : World) (hg : 0 ≤ g ∧ g ≤ 1125899906842624) (hm : 0 ≤ most ∧ most ≤ 1000000) (hy : 0 ≤ yearly ∧ yearly ≤ 1125899906842624) (hn : 0 ≤ now ∧ now ≤ 1125899906842624) (hr : 0 ≤ year ∧ year ≤ 1125899906842624) :
    Calls Tryz.prog 76 #[.int .i64 g, .agg #[.string co, .int .i64 most, .int .i64 yearly], .int .i64 now, .int .i64 year] w fun e w' => e = .returned (.int .i64 (roomX g most yearly now year)) ∧ Below w.heap.size w w' := by
  obtain ⟨gn, rfl⟩ : ∃ n : Nat, g = n := ⟨g.toNat, by omega⟩
  obtain ⟨mn, rfl⟩ : ∃ n : Nat, most = n := ⟨most.toNat, by omega⟩
  have H1 := Lib.hid (fun W => rt_of gn mn W (by omega) (by omega))
  have hle := ofN_le gn mn (by omega)
  have w1 : IntKind.i64.wrap ((ofN gn mn : Int) - now) = (ofN gn mn : Int) - now := by rw [IntKind.wrap_i64]; omega
  have w2 : IntKind.i64.wrap (yearly - year) = yearly - year := by rw [IntKind.wrap_i64]; omega
  generalize hO : ofN gn mn = O at *
  obtain ⟨a, ha⟩ : ∃ a : Int, (if (mn : Int) = 1000000 then (gn : Int) else min (gn : Int) ((O : Int) - now)) = a := ⟨_, rfl⟩
  obtain ⟨b, hb⟩ : ∃ b : Int, (if yearly = 0 then a else min a (yearly - year)) = b := ⟨_, rfl⟩
  have HR : Hid (roomX gn mn yearly now year = max b 0) := Lib.hid (by unfold roomX; simp only [Int.toNat_natCast, hO, ha, hb])
  have HA := Lib.hid ha
  have HB := Lib.hid hb
  clear ha hb hO hle hg hm hy hn hr
  obtain ⟨fb, hfb⟩ : ∃ x, w.heap.size = x := ⟨_, rfl⟩
  obtain ⟨wa, hwa⟩ : ∃ x, w.alloc (.cells #[.string co, .int .i64 mn, .int .i64 yearly] 136) = x := ⟨_, rfl⟩
  have hb0 : Bk fb 136 #[.string co, .int .i64 mn, .int .i64 yearly] wa := by rw [← hwa, ← hfb]; exact Bk.new _ _ _
  have HBA : Hid (Below w.heap.size w wa) := Lib.hid (by rw [← hwa]; exact bAlloc w _)
  have hlt := hb0.lt
  have C1 : wa.cell? ⟨fb, 1, none⟩ = some (.int .i64 mn) := hb0.cell 1
  have C2 : wa.cell? ⟨fb, 2, none⟩ = some (.int .i64 yearly) := hb0.cell 2
  go_enter Tryz.func76, Tryz.ntmps76
  go_upto_region 1 with fail
  clear hwa hfb
  have HB0 := Lib.hid hb0
  clear hb0
  have KC : Hid (∀ W, Below wa.heap.size wa W → W.cell? ⟨fb, 2, none⟩ = some (.int .i64 yearly)) := Lib.hid fun W h => (h.cell (p := ⟨fb, 2, none⟩) hlt).trans C2
  go_upto_region 2 with fail
  by_cases h1 : (mn : Int) = 1000000
  · have e1 : a = gn := by have := HA.out; rw [if_pos h1] at this; exact this.symm
    subst e1
    have n1 : ((mn : Int) != 1000000) = false := by rw [h1]; rfl
    clear h1
    by_cases h2 : yearly = 0
    · have e2 : b = (gn : Int) := by have := HB.out; rw [if_pos h2] at this; exact this.symm
      subst e2
      subst h2
      go_upto_region 7 with fail
      go_wp2_with fail
      refine (ce_Greatest _ _ _).mono ?_
      rintro e w3 ⟨rfl, rfl⟩
      go_wp2_with fail
      go_ret
      exact ⟨by rw [HR.out, Int.max_eq_left (Int.natCast_nonneg gn)]; rfl, HBA.out⟩
    · have e2 : min (gn : Int) (yearly - year) = b := by have := HB.out; rw [if_neg h2] at this; exact this
      have n2 : (yearly != 0) = true := by simpa using h2
      go_wp2_with fail
      refine (ce_Least _ _ _).mono ?_
      rintro e w3 ⟨rfl, rfl⟩
      rw [e2]
      go_wp2_with fail
      refine (ce_Greatest _ _ _).mono ?_
      rintro e w3 ⟨rfl, rfl⟩
      go_wp2_with fail
      go_ret
      exact ⟨by rw [HR.out]; rfl, HBA.out⟩
  · have e1 : min (gn : Int) ((O : Int) - now) = a := by have := HA.out; rw [if_neg h1] at this; exact this
    have n1 : ((mn : Int) != 1000000) = true := by simpa using h1
    go_wp2_with fail
    refine (H1.out _).mono ?_
    rintro e w3 ⟨rfl, hW⟩
    have HW : Hid (Below w.heap.size w w3) := Lib.hid (bTrans HBA.out hW)
    have C3 := KC.out _ hW
    clear C2 hW
    go_wp2_with fail
    refine (ce_Least _ _ _).mono ?_
    rintro e w4 ⟨rfl, rfl⟩
    rw [e1]
    by_cases h2 : yearly = 0
    · have e2 : b = a := by have := HB.out; rw [if_pos h2] at this; exact this.symm
      subst e2
      subst h2
      go_wp2_with fail
      refine (ce_Greatest _ _ _).mono ?_
      rintro e w3 ⟨rfl, rfl⟩
      go_wp2_with fail
      go_ret
      exact ⟨by rw [HR.out]; rfl, HW.out⟩
    · have e2 : min a (yearly - year) = b := by have := HB.out; rw [if_neg h2] at this; exact this
      have n2 : (yearly != 0) = true := by simpa using h2
      go_wp2_with fail
      refine (ce_Least _ _ _).mono ?_
      rintro e w3 ⟨rfl, rfl⟩
      rw [e2]
      go_wp2_with fail
      refine (ce_Greatest _ _ _).mono ?_
      rintro e w3 ⟨rfl, rfl⟩
      go_wp2_with fail
      go_ret
      exact ⟨by rw [HR.out]; rfl, HW.out⟩
end Go.Proofs.YtgepbkldgnjpfaaGreatDoor

/- before.After: deductions behind tax. -/
namespace Go.Proofs.YtgepbkldgnjpfaaGreatDoor
open Go.RowKit Go.Sort Go.BigFrame

/-- An item: its code, its amount. -/
abbrev It := ByteArray × Int
def encI (x : It) : List Value := [.string x.1, .int .i64 x.2]
theorem encI_len (x : It) : (encI x).length = 2 := rfl
theorem encI_one (x : It) : ∀ u ∈ encI x, u.oneCell' = true := by
  intro u hu
  simp only [encI, List.mem_cons, List.not_mem_nil, or_false] at hu
  rcases hu with rfl | rfl <;> rfl
theorem itemInfo : (Tryz.prog.info? 65).map (fun i => (i.zero, i.size, i.bytes)) = some (some (.agg #[.string ByteArray.empty, .int .i64 0]), 2, 24) := by kernel_rfl
theorem newsI (x : It) (w : World) : ∀ j u, (encI x)[j]? = some u → (w.alloc (.cells #[.string x.1, .int .i64 x.2] 65)).cell? ⟨w.heap.size, j, none⟩ = some u := by
  intro j u hu
  have h := Bk.new w 65 #[.string x.1, .int .i64 x.2]
  rw [h.cell]
  simpa [encI] using hu
theorem grownBelowI {a b : World} {r : Option Nat} {B : Nat} (h : a.grownBy b r) (hr : ∀ k, r = some k → B ≤ k) (hB : B ≤ a.heap.size) : Below B a b :=
  ⟨h.os, h.tape, h.output, h.size, fun i hi => h.block i (Nat.lt_of_lt_of_le hi hB) (fun e => by have := hr i e.symm; omega)⟩
/-- Items taken of what is left, one behind the other. -/
def afterL (left : Int) : List It → List It × Int
  | [] => ([], left)
  | x :: l => if 0 < min x.2 left then ((x.1, min x.2 left) :: (afterL (left - min x.2 left) l).1, (afterL (left - min x.2 left) l).2) else afterL left l

set_option maxHeartbeats 1000000 in
set_option maxRecDepth 100000 in
theorem bf_After (l : List It) (left : Int) (A : Option Addr) (cap : Nat) (w : World) (hn : l.length ≤ 1000000) (hleft : left ≤ 9223372036854775807 ∧ -9223372036854775808 ≤ left) (hs : Sl encI 2 w w.heap.size A l) :
    Calls Tryz.prog 41 #[.int .i64 left, .slice A l.length cap] w fun e w' => ∃ v, e = .returned (.tuple #[v, .int .i64 (afterL left l).2]) ∧ Own encI 2 65 w.heap.size v (afterL left l).1 w' ∧ Below w.heap.size w w' := by
  go_enter Tryz.func41, Tryz.ntmps41
  have HS := Lib.hid hs
  have HL0 := Lib.hid hleft
  clear hs hleft
  go_wp2
  go_loopw [0, 6, 12] (fun lv ov iv wr => ∃ (sv : Value) (n : Nat) (acc : List It) (lf : Int), sv = ov ∧ n ≤ l.length ∧ iv = .int .i64 n ∧ lv = .int .i64 lf ∧ acc.length ≤ n ∧ Hid (lf ≤ 9223372036854775807 ∧ -9223372036854775808 ≤ lf) ∧ Hid (acc ++ (afterL lf (l.drop n)).1 = (afterL left l).1 ∧ (afterL lf (l.drop n)).2 = (afterL left l).2) ∧ Hid (Own encI 2 65 w.heap.size ov acc wr) ∧ Hid (Below w.heap.size w wr)) (fun _ _ iv _ => l.length - (intOf iv).toNat)
  case atStart => exact ⟨_, 0, [], left, rfl, Nat.zero_le _, rfl, rfl, Nat.le_refl _, HL0, Lib.hid (by simp), Lib.hid (by simpa using Own.nil _), Lib.hid (Below.refl _ _)⟩
  case round =>
    obtain ⟨ov, n, acc, lf, rfl, hn1, rfl, rfl, hacc, HL, HA, HO, HB⟩ := hrel
    by_cases hlt : n < l.length
    · obtain ⟨b, off, rfl, hB, hc⟩ := HS.out (by intro h; simp [h] at hlt)
      obtain ⟨⟨co, x⟩, hx⟩ : ∃ x, l[n]? = some x := ⟨_, List.getElem?_eq_getElem hlt⟩
      have C0 : wr.cell? ⟨b, off + n * 2, none⟩ = some (.string co) := (HB.out.cell (p := ⟨b, off + n * 2, none⟩) hB).trans (by simpa using hc n _ hx 0 _ rfl)
      have C1 : wr.cell? ⟨b, off + n * 2 + 1, none⟩ = some (.int .i64 x) := (HB.out.cell (p := ⟨b, off + n * 2 + 1, none⟩) hB).trans (hc n _ hx 1 _ rfl)
      have hdrop : l.drop n = (co, x) :: l.drop (n + 1) := by
        rw [List.drop_eq_getElem_cons hlt]
        congr 1
        have := List.getElem?_eq_getElem hlt
        rw [hx] at this
        exact (Option.some.inj this).symm
      have HD : Hid ((afterL lf (l.drop n)) = if 0 < min x lf then ((co, min x lf) :: (afterL (lf - min x lf) (l.drop (n + 1))).1, (afterL (lf - min x lf) (l.drop (n + 1))).2) else afterL lf (l.drop (n + 1))) := Lib.hid (by rw [hdrop]; rfl)
      have hbs := HB.out.size
      clear hc hx hdrop
      go_upto_region 5 with fail
      obtain ⟨fb, hfb⟩ : ∃ y, wr.heap.size = y := ⟨_, rfl⟩
      obtain ⟨wa, hwa⟩ : ∃ y, wr.alloc (.cells #[.string co, .int .i64 x] 65) = y := ⟨_, rfl⟩
      have hb0 : Bk fb 65 #[.string co, .int .i64 x] wa := by rw [← hwa, ← hfb]; exact Bk.new _ _ _
      have HB1 : Hid (Below w.heap.size w wa) := Lib.hid (HB.out.trans (by rw [← hwa]; exact (Grows.of_alloc wr _).below.mono hbs))
      have HO1 : Hid (Own encI 2 65 w.heap.size ov acc wa) := Lib.hid (by rw [← hwa]; exact HO.out.alloc _)
      have hbs1 := HB1.out.size
      have hlt1 := hb0.lt
      have D0 : wa.cell? ⟨fb, 0, none⟩ = some (.string co) := hb0.cell 0
      have D1 : wa.cell? ⟨fb, 1, none⟩ = some (.int .i64 x) := hb0.cell 1
      have hne : some fb ≠ ov.ownBlock := fun he => by have := (HO.out.lt he.symm).2; omega
      have HB0 := Lib.hid hb0
      rw [hwa, hfb]
      have hfw : w.heap.size ≤ fb := by rw [← hfb]; exact hbs
      clear hwa hb0 C0 C1 HO HB hbs
      go_wp2_with fail
      refine (ce_Least _ _ _).mono ?_
      rintro e w3 ⟨rfl, rfl⟩
      obtain ⟨c, hc⟩ : ∃ c, min x lf = c := ⟨_, rfl⟩
      rw [hc] at HD ⊢
      have HC := Lib.hid hc
      clear hc
      by_cases hp : 0 < c
      · have d1 : decide ((0 : Int) < c) = true := decide_eq_true hp
        have hle : c ≤ lf := by rw [← HC.out]; exact Int.min_le_right _ _
        have w1 : IntKind.i64.wrap (lf - c) = lf - c := by have := HL.out; rw [IntKind.wrap_i64]; omega
        have HL2 : Hid (lf - c ≤ 9223372036854775807 ∧ -9223372036854775808 ≤ lf - c) := Lib.hid (by have := HL.out; omega)
        have HD2 : Hid (afterL lf (l.drop n) = ((co, c) :: (afterL (lf - c) (l.drop (n + 1))).1, (afterL (lf - c) (l.drop (n + 1))).2)) := Lib.hid (by rw [HD.out, if_pos hp])
        have GA : Hid (∀ o, (wa.alloc o).cell? ⟨fb, 0, none⟩ = some (.string co)) := Lib.hid (fun o => (HB0.out.grows (Grows.of_alloc wa o)).cell 0)
        have HLE : acc.length + 1 ≤ 1000000000 := by omega
        clear hp hle hne D1
        go_upto_region 7 with fail
        go_wp2_with ((at_builtin; refine wpList_append_row encI_len encI_one rfl _ _ 46 rfl w.heap.size 65 _ 24 Tryz.underlying46 itemInfo rfl (by decide) _ acc (co, c) rfl (HO1.out.alloc _) wa.heap.size 1 rfl (newsI (co, c) wa) HLE (by decide) (Nat.le_trans hbs1 (Grows.of_alloc wa _).size) ?_))
        intro v9 w9 hown9 hgr9
        have HB9 : Hid (Below w.heap.size w w9) := Lib.hid (HB1.out.trans (((bAlloc wa _).mono hbs1).trans (grownBelowI hgr9 (fun k hk => (HO1.out.lt hk).1) (Nat.le_trans hbs1 (Grows.of_alloc wa _).size))))
        have HO9 := Lib.hid hown9
        clear hown9 hgr9
        go_wp2
        refine ⟨⟨_, n + 1, acc ++ [(co, c)], lf - c, rfl, by omega, by go_num, rfl, by simp; omega, HL2, Lib.hid ?_, HO9, HB9⟩, by simp [intOf]; omega⟩
        have h := HA.out
        rw [HD2.out] at h
        simpa [List.append_assoc] using h
      · have d1 : decide ((0 : Int) < c) = false := decide_eq_false hp
        have HD2 : Hid (afterL lf (l.drop n) = afterL lf (l.drop (n + 1))) := Lib.hid (by rw [HD.out, if_neg hp])
        clear hp
        go_wp2
        refine ⟨⟨_, n + 1, acc, lf, rfl, by omega, by go_num, rfl, by omega, HL, Lib.hid (by rw [← HD2.out]; exact HA.out), HO1, HB1⟩, by simp [intOf]; omega⟩
    · obtain rfl : n = l.length := by omega
      go_wp2
      go_ret2
      have h := HA.out
      rw [List.drop_length] at h
      simp only [afterL, List.append_nil] at h
      refine ⟨_, by rw [← h.2]; rfl, by rw [← h.1]; exact HO.out, HB.out⟩
end Go.Proofs.YtgepbkldgnjpfaaGreatDoor

/- cents.Add, Sub, Sum. -/
namespace Go.Proofs.YtgepbkldgnjpfaaGreatDoor
open Go.RowKit Go.Sort Go.BigFrame

/-- An amount that may be. -/
def fitB (c : Int) : Bool := decide (c.natAbs ≤ 1125899906842624)
/-- An amount that comes of two, or why there is none. -/
def toldR (a b c : Int) : Int × Int := if fitB a = false ∨ fitB b = false then (0, 2) else if fitB c = false then (0, 9) else (c, 0)
theorem ce_fit (c : Int) (w : World) : Calls Tryz.prog 22 #[.int .i64 c] w fun e w' => e = .returned (.bool (fitB c)) ∧ w = w' := ce_Fits c w
theorem ce_told (a b c : Int) (w : World) : Calls Tryz.prog 79 #[.int .i64 a, .int .i64 b, .int .i64 c] w fun e w' => e = .returned (.tuple #[.int .i64 (toldR a b c).1, .int .i64 (toldR a b c).2]) ∧ w = w' := by
  have hT : toldR a b c = if fitB a = false ∨ fitB b = false then (0, 2) else if fitB c = false then (0, 9) else (c, 0) := rfl
  have H1 := ce_fit a w
  have H2 := ce_fit b w
  have H3 := ce_fit c w
  go_enter Tryz.func79, Tryz.ntmps79
  generalize fitB a = x at *
  generalize fitB b = y at *
  generalize fitB c = z at *
  have HT := Lib.hid hT
  have H1 := Lib.hid H1
  have H2 := Lib.hid H2
  have H3 := Lib.hid H3
  clear hT
  cases x
  · go_wp2_with fail
    refine H1.out.mono ?_
    rintro e w1 ⟨rfl, rfl⟩
    go_wp2_with fail
    go_ret2
    rw [HT.out]
    exact ⟨rfl, rfl⟩
  · cases y
    · go_wp2_with fail
      refine H1.out.mono ?_
      rintro e w1 ⟨rfl, rfl⟩
      go_wp2_with fail
      refine H2.out.mono ?_
      rintro e w1 ⟨rfl, rfl⟩
      go_wp2_with fail
      go_ret2
      rw [HT.out]
      exact ⟨rfl, rfl⟩
    · cases z
      · go_wp2_with fail
        refine H1.out.mono ?_
        rintro e w1 ⟨rfl, rfl⟩
        go_wp2_with fail
        refine H2.out.mono ?_
        rintro e w1 ⟨rfl, rfl⟩
        go_wp2_with fail
        refine H3.out.mono ?_
        rintro e w1 ⟨rfl, rfl⟩
        go_wp2_with fail
        go_ret2
        rw [HT.out]
        exact ⟨rfl, rfl⟩
      · go_wp2_with fail
        refine H1.out.mono ?_
        rintro e w1 ⟨rfl, rfl⟩
        go_wp2_with fail
        refine H2.out.mono ?_
        rintro e w1 ⟨rfl, rfl⟩
        go_wp2_with fail
        refine H3.out.mono ?_
        rintro e w1 ⟨rfl, rfl⟩
        go_wp2_with fail
        go_ret2
        rw [HT.out]
        exact ⟨rfl, rfl⟩
theorem toldR_wrap (a b c d : Int) (h : a.natAbs ≤ 1125899906842624 → b.natAbs ≤ 1125899906842624 → c = d) : toldR a b c = toldR a b d := by
  unfold toldR
  by_cases h1 : fitB a = false ∨ fitB b = false
  · rw [if_pos h1, if_pos h1]
  · have h2 : fitB a = true := by cases hx : fitB a with | true => rfl | false => exact absurd (Or.inl hx) h1
    have h3 : fitB b = true := by cases hx : fitB b with | true => rfl | false => exact absurd (Or.inr hx) h1
    rw [h (of_decide_eq_true h2) (of_decide_eq_true h3)]
theorem ce_Add (a b : Int) (w : World) : Calls Tryz.prog 97 #[.int .i64 a, .int .i64 b] w fun e w' => e = .returned (.tuple #[.int .i64 (toldR a b (a + b)).1, .int .i64 (toldR a b (a + b)).2]) ∧ w = w' := by
  have hw : toldR a b (IntKind.i64.wrap (a + b)) = toldR a b (a + b) := toldR_wrap _ _ _ _ fun h1 h2 => by rw [IntKind.wrap_i64]; omega
  have H1 := Lib.hid (ce_told a b (IntKind.i64.wrap (a + b)) w)
  rw [hw] at H1
  obtain ⟨r, hr⟩ : ∃ r, toldR a b (a + b) = r := ⟨_, rfl⟩
  obtain ⟨s, hs⟩ : ∃ s, IntKind.i64.wrap (a + b) = s := ⟨_, rfl⟩
  rw [hs, hr] at H1
  rw [hr]
  clear hw hr
  go_enter Tryz.func97, Tryz.ntmps97
  go_wp2_with fail
  refine H1.out.mono ?_
  rintro e w1 ⟨rfl, rfl⟩
  go_wp2_with fail
  go_ret2
  exact ⟨rfl, rfl⟩
end Go.Proofs.YtgepbkldgnjpfaaGreatDoor

/- cents.Sum, before.Sum. -/
namespace Go.Proofs.YtgepbkldgnjpfaaGreatDoor
open Go.RowKit Go.Sort Go.BigFrame

def encC (c : Int) : List Value := [.int .i64 c]
theorem encC_len (c : Int) : (encC c).length = 1 := rfl
theorem encC_one (x : Int) : ∀ u ∈ encC x, u.oneCell' = true := by
  intro u hu
  simp only [encC, List.mem_cons, List.not_mem_nil, or_false] at hu
  subst hu; rfl
/-- A sum, step by step. -/
def sumC : Int → List Int → Int × Int
  | s, [] => (s, 0)
  | s, c :: l => if (toldR s c (s + c)).2 = 0 then sumC (toldR s c (s + c)).1 l else (0, (toldR s c (s + c)).2)
theorem sumC_cons (s c : Int) (l : List Int) : sumC s (c :: l) = if (toldR s c (s + c)).2 = 0 then sumC (toldR s c (s + c)).1 l else (0, (toldR s c (s + c)).2) := rfl
theorem drop_get {α : Type} {l : List α} {n : Nat} {x : α} (h : l[n]? = some x) : l.drop n = x :: l.drop (n + 1) := by
  obtain ⟨hlt, hx⟩ := List.getElem?_eq_some_iff.1 h
  rw [List.drop_eq_getElem_cons hlt, hx]
set_option maxHeartbeats 1000000 in
theorem ce_Sum (l : List Int) (A : Option Addr) (cap : Nat) (w : World) (hn : l.length ≤ 1000000) (hs : Sl encC 1 w w.heap.size A l) :
    Calls Tryz.prog 69 #[.slice A l.length cap] w fun e w' => e = .returned (.tuple #[.int .i64 (sumC 0 l).1, .int .i64 (sumC 0 l).2]) ∧ w = w' := by
  go_enter Tryz.func69, Tryz.ntmps69
  have HS := Lib.hid hs
  clear hs
  go_wp2
  go_loopw [4, 11] (fun sv iv wr => ∃ (n : Nat) (s : Int), n ≤ l.length ∧ iv = .int .i64 n ∧ sv = .int .i64 s ∧ Hid (sumC s (l.drop n) = sumC 0 l) ∧ w = wr) (fun _ iv _ => l.length - (intOf iv).toNat)
  case atStart => exact ⟨0, 0, Nat.zero_le _, rfl, rfl, Lib.hid rfl, rfl⟩
  case round =>
    obtain ⟨n, s, hn1, rfl, rfl, HA, rfl⟩ := hrel
    by_cases hlt : n < l.length
    · obtain ⟨b, off, rfl, hB, hc⟩ := HS.out (by intro h; simp [h] at hlt)
      obtain ⟨x, hx⟩ : ∃ x, l[n]? = some x := ⟨_, List.getElem?_eq_getElem hlt⟩
      have C0 : w.cell? ⟨b, off + n, none⟩ = some (.int .i64 x) := by simpa using hc n _ hx 0 _ rfl
      have H1 := Lib.hid (ce_Add s x w)
      have h := HA.out
      rw [drop_get hx, sumC_cons] at h
      obtain ⟨⟨r1, r2⟩, hr⟩ : ∃ r, toldR s x (s + x) = r := ⟨_, rfl⟩
      rw [hr] at h H1
      by_cases h2 : r2 = 0
      · rw [if_pos h2] at h
        subst h2
        have HN := Lib.hid h
        clear hc hx h hr HA
        go_wp2_with fail
        refine H1.out.mono ?_
        rintro e w1 ⟨rfl, rfl⟩
        go_wp2_with fail
        exact ⟨⟨n + 1, r1, by omega, by go_num, rfl, HN, trivial⟩, by simp [intOf]; omega⟩
      · rw [if_neg h2] at h
        have HN := Lib.hid h
        have n2 : (r2 != 0) = true := by simpa using h2
        clear hc hx h hr HA
        go_wp2_with fail
        refine H1.out.mono ?_
        rintro e w1 ⟨rfl, rfl⟩
        go_wp2_with fail
        go_ret2
        rw [← HN.out]
        exact ⟨rfl, rfl⟩
    · obtain rfl : n = l.length := by omega
      go_wp2
      go_ret2
      have h := HA.out
      rw [List.drop_length] at h
      rw [← h]
      exact ⟨rfl, rfl⟩
end Go.Proofs.YtgepbkldgnjpfaaGreatDoor
