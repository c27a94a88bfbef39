/- Out of: Yd0 Yd1. -/
import Derived.Test.YtgepbkldgnjpfaaGreatDoorZge
/- Names: social.named, attach.named; a fact's name is the plain one (gen/mkname.py). -/
namespace Go.Proofs.YtgepbkldgnjpfaaGreatDoor
open Go.RowKit

theorem nmB_eq (s : ByteArray) : nmB s = nameB (ls s) := rfl
set_option linter.unusedVariables false in
set_option maxHeartbeats 4000000 in
theorem so_named (s : ByteArray) (w : World) (hs : s.size ≤ 9223372036854775807) : Calls Tryz.prog 141 #[.string s] w fun e w' => e = .returned (.bool (nameB (ls s))) ∧ w = w' := by
  go_enter Tryz.func141, Tryz.ntmps141
  go_wp2
  go_loop [3, 4, 7] (fun _ _ iv => ∃ k : Nat, k ≤ s.size ∧ iv = .int .i64 k ∧ Hid (((ls s).take k).all nameC = true)) (fun _ _ iv => s.size - (intOf iv).toNat)
  case atStart => exact ⟨0, Nat.zero_le _, rfl, Lib.hid rfl⟩
  case round =>
    obtain ⟨k, hk, rfl, HP⟩ := hrel
    by_cases hlt : k < s.size
    · have hix := run_at (P := Tryz.prog) 9 Tryz.underlying9 s k hlt
      have hbd := byteAt_bd s k
      obtain ⟨b, hb, hcb⟩ := byte_some hlt
      have HB := Lib.hid hb
      have HC := Lib.hid hcb
      clear hb hcb
      generalize byteAt s k = c at *
      have hcl : (c < 45) ∨ (c = 45) ∨ (c = 46) ∨ (c = 47) ∨ (48 ≤ c ∧ c ≤ 57) ∨ (58 ≤ c ∧ c < 95) ∨ (c = 95) ∨ (c = 96) ∨ (97 ≤ c ∧ c ≤ 122) ∨ (122 < c) := by omega
      rcases hcl with hc | hc | hc | hc | hc | hc | hc | hc | hc | hc
      · have HX : Hid (nameC b = false) := Lib.hid (by have := HC.out; unfold nameC; simp; omega)
        have t1 : c < 97 := by omega
        have t2 : ¬ 122 < c := by omega
        have t3 : c < 48 := by omega
        have t4 : ¬ 57 < c := by omega
        have t5 : (c == 46) = false := beq_eq_false_iff_ne.2 (by omega)
        have t5n : (c != 46) = true := bne_iff_ne.2 (by omega)
        have t6 : (c == 95) = false := beq_eq_false_iff_ne.2 (by omega)
        have t6n : (c != 95) = true := bne_iff_ne.2 (by omega)
        have t7 : (c == 45) = false := beq_eq_false_iff_ne.2 (by omega)
        have t7n : (c != 45) = true := bne_iff_ne.2 (by omega)
        have HF := Lib.hid (nameB_bad (all_bad HB.out HX.out))
        go_wp2
        go_ret
        exact ⟨ret_b HF.out.symm, rfl⟩
      · have HX : Hid (nameC b = true) := Lib.hid (by have := HC.out; unfold nameC; simp; omega)
        subst hc
        have HN := Lib.hid (all_more HP.out HB.out HX.out)
        go_wp2
        go_round
        case rel => exact ⟨k + 1, by omega, by go_num, HN⟩
        case measure => simp [intOf]; omega
      · have HX : Hid (nameC b = true) := Lib.hid (by have := HC.out; unfold nameC; simp; omega)
        subst hc
        have HN := Lib.hid (all_more HP.out HB.out HX.out)
        go_wp2
        go_round
        case rel => exact ⟨k + 1, by omega, by go_num, HN⟩
        case measure => simp [intOf]; omega
      · have HX : Hid (nameC b = false) := Lib.hid (by have := HC.out; unfold nameC; simp; omega)
        subst hc
        have HF := Lib.hid (nameB_bad (all_bad HB.out HX.out))
        go_wp2
        go_ret
        exact ⟨ret_b HF.out.symm, rfl⟩
      · have HX : Hid (nameC b = true) := Lib.hid (by have := HC.out; unfold nameC; simp; omega)
        have t1 : c < 97 := by omega
        have t2 : ¬ 122 < c := by omega
        have t3 : ¬ c < 48 := by omega
        have t4 : ¬ 57 < c := by omega
        have t5 : (c == 46) = false := beq_eq_false_iff_ne.2 (by omega)
        have t5n : (c != 46) = true := bne_iff_ne.2 (by omega)
        have t6 : (c == 95) = false := beq_eq_false_iff_ne.2 (by omega)
        have t6n : (c != 95) = true := bne_iff_ne.2 (by omega)
        have t7 : (c == 45) = false := beq_eq_false_iff_ne.2 (by omega)
        have t7n : (c != 45) = true := bne_iff_ne.2 (by omega)
        have HN := Lib.hid (all_more HP.out HB.out HX.out)
        go_wp2
        go_round
        case rel => exact ⟨k + 1, by omega, by go_num, HN⟩
        case measure => simp [intOf]; omega
      · have HX : Hid (nameC b = false) := Lib.hid (by have := HC.out; unfold nameC; simp; omega)
        have t1 : c < 97 := by omega
        have t2 : ¬ 122 < c := by omega
        have t3 : ¬ c < 48 := by omega
        have t4 : 57 < c := by omega
        have t5 : (c == 46) = false := beq_eq_false_iff_ne.2 (by omega)
        have t5n : (c != 46) = true := bne_iff_ne.2 (by omega)
        have t6 : (c == 95) = false := beq_eq_false_iff_ne.2 (by omega)
        have t6n : (c != 95) = true := bne_iff_ne.2 (by omega)
        have t7 : (c == 45) = false := beq_eq_false_iff_ne.2 (by omega)
        have t7n : (c != 45) = true := bne_iff_ne.2 (by omega)
        have HF := Lib.hid (nameB_bad (all_bad HB.out HX.out))
        go_wp2
        go_ret
        exact ⟨ret_b HF.out.symm, rfl⟩
      · have HX : Hid (nameC b = true) := Lib.hid (by have := HC.out; unfold nameC; simp; omega)
        subst hc
        have HN := Lib.hid (all_more HP.out HB.out HX.out)
        go_wp2
        go_round
        case rel => exact ⟨k + 1, by omega, by go_num, HN⟩
        case measure => simp [intOf]; omega
      · have HX : Hid (nameC b = false) := Lib.hid (by have := HC.out; unfold nameC; simp; omega)
        subst hc
        have HF := Lib.hid (nameB_bad (all_bad HB.out HX.out))
        go_wp2
        go_ret
        exact ⟨ret_b HF.out.symm, rfl⟩
      · have HX : Hid (nameC b = true) := Lib.hid (by have := HC.out; unfold nameC; simp; omega)
        have t1 : ¬ c < 97 := by omega
        have t2 : ¬ 122 < c := by omega
        have t3 : ¬ c < 48 := by omega
        have t4 : 57 < c := by omega
        have t5 : (c == 46) = false := beq_eq_false_iff_ne.2 (by omega)
        have t5n : (c != 46) = true := bne_iff_ne.2 (by omega)
        have t6 : (c == 95) = false := beq_eq_false_iff_ne.2 (by omega)
        have t6n : (c != 95) = true := bne_iff_ne.2 (by omega)
        have t7 : (c == 45) = false := beq_eq_false_iff_ne.2 (by omega)
        have t7n : (c != 45) = true := bne_iff_ne.2 (by omega)
        have HN := Lib.hid (all_more HP.out HB.out HX.out)
        go_wp2
        go_round
        case rel => exact ⟨k + 1, by omega, by go_num, HN⟩
        case measure => simp [intOf]; omega
      · have HX : Hid (nameC b = false) := Lib.hid (by have := HC.out; unfold nameC; simp; omega)
        have t1 : ¬ c < 97 := by omega
        have t2 : 122 < c := by omega
        have t3 : ¬ c < 48 := by omega
        have t4 : 57 < c := by omega
        have t5 : (c == 46) = false := beq_eq_false_iff_ne.2 (by omega)
        have t5n : (c != 46) = true := bne_iff_ne.2 (by omega)
        have t6 : (c == 95) = false := beq_eq_false_iff_ne.2 (by omega)
        have t6n : (c != 95) = true := bne_iff_ne.2 (by omega)
        have t7 : (c == 45) = false := beq_eq_false_iff_ne.2 (by omega)
        have t7n : (c != 45) = true := bne_iff_ne.2 (by omega)
        have HF := Lib.hid (nameB_bad (all_bad HB.out HX.out))
        go_wp2
        go_ret
        exact ⟨ret_b HF.out.symm, rfl⟩
    · obtain rfl : k = s.size := by omega
      have HF : Hid ((ls s).all nameC = true) := Lib.hid (by have := HP.out; rwa [List.take_of_length_le (by rw [ls_len]; omega)] at this)
      by_cases h0 : s.size = 0
      · have he : s.toList.isEmpty = true := by rw [isEmpty_ls, (nil_iff s).2 h0]; rfl
        have HR : Hid (nameB (ls s) = false) := Lib.hid (by rw [(nil_iff s).2 h0]; rfl)
        go_wp2
        go_ret
        exact ⟨ret_b HR.out.symm, rfl⟩
      have he : s.toList.isEmpty = false := by rw [isEmpty_ls]; simpa using fun h => h0 ((nil_iff s).1 h)
      by_cases h1 : ls s = [45]
      · have hd : (s.toList == [45]) = true := by rw [beq_ls]; exact decide_eq_true h1
        have HR : Hid (nameB (ls s) = false) := Lib.hid (by rw [h1]; rfl)
        clear h1
        go_wp2
        go_ret
        exact ⟨ret_b HR.out.symm, rfl⟩
      have hd : (s.toList == [45]) = false := by rw [beq_ls]; exact decide_eq_false h1
      have HR : Hid (nameB (ls s) = decide (s.size ≤ 32)) := Lib.hid (by
        rw [nameB_of HF.out, ← ls_len]
        have e1 : (ls s == []) = false := by simpa using fun h => h0 ((nil_iff s).1 h)
        have e2 : (ls s == [45]) = false := by simpa using h1
        rw [e1, e2]; rfl)
      clear h1
      by_cases hq : (s.size : Int) ≤ 32
      · go_wp2
        go_ret
        exact ⟨ret_b (by rw [HR.out]; simp; omega), rfl⟩
      · go_wp2
        go_ret
        exact ⟨ret_b (by rw [HR.out]; simp; omega), rfl⟩
set_option linter.unusedVariables false in
set_option maxHeartbeats 4000000 in
theorem at_named (s : ByteArray) (w : World) (hs : s.size ≤ 9223372036854775807) : Calls Tryz.prog 104 #[.string s] w fun e w' => e = .returned (.bool (nameB (ls s))) ∧ w = w' := by
  go_enter Tryz.func104, Tryz.ntmps104
  go_wp2
  go_loop [3, 4, 7] (fun _ _ iv => ∃ k : Nat, k ≤ s.size ∧ iv = .int .i64 k ∧ Hid (((ls s).take k).all nameC = true)) (fun _ _ iv => s.size - (intOf iv).toNat)
  case atStart => exact ⟨0, Nat.zero_le _, rfl, Lib.hid rfl⟩
  case round =>
    obtain ⟨k, hk, rfl, HP⟩ := hrel
    by_cases hlt : k < s.size
    · have hix := run_at (P := Tryz.prog) 9 Tryz.underlying9 s k hlt
      have hbd := byteAt_bd s k
      obtain ⟨b, hb, hcb⟩ := byte_some hlt
      have HB := Lib.hid hb
      have HC := Lib.hid hcb
      clear hb hcb
      generalize byteAt s k = c at *
      have hcl : (c < 45) ∨ (c = 45) ∨ (c = 46) ∨ (c = 47) ∨ (48 ≤ c ∧ c ≤ 57) ∨ (58 ≤ c ∧ c < 95) ∨ (c = 95) ∨ (c = 96) ∨ (97 ≤ c ∧ c ≤ 122) ∨ (122 < c) := by omega
      rcases hcl with hc | hc | hc | hc | hc | hc | hc | hc | hc | hc
      · have HX : Hid (nameC b = false) := Lib.hid (by have := HC.out; unfold nameC; simp; omega)
        have t1 : c < 97 := by omega
        have t2 : ¬ 122 < c := by omega
        have t3 : c < 48 := by omega
        have t4 : ¬ 57 < c := by omega
        have t5 : (c == 46) = false := beq_eq_false_iff_ne.2 (by omega)
        have t5n : (c != 46) = true := bne_iff_ne.2 (by omega)
        have t6 : (c == 95) = false := beq_eq_false_iff_ne.2 (by omega)
        have t6n : (c != 95) = true := bne_iff_ne.2 (by omega)
        have t7 : (c == 45) = false := beq_eq_false_iff_ne.2 (by omega)
        have t7n : (c != 45) = true := bne_iff_ne.2 (by omega)
        have HF := Lib.hid (nameB_bad (all_bad HB.out HX.out))
        go_wp2
        go_ret
        exact ⟨ret_b HF.out.symm, rfl⟩
      · have HX : Hid (nameC b = true) := Lib.hid (by have := HC.out; unfold nameC; simp; omega)
        subst hc
        have HN := Lib.hid (all_more HP.out HB.out HX.out)
        go_wp2
        go_round
        case rel => exact ⟨k + 1, by omega, by go_num, HN⟩
        case measure => simp [intOf]; omega
      · have HX : Hid (nameC b = true) := Lib.hid (by have := HC.out; unfold nameC; simp; omega)
        subst hc
        have HN := Lib.hid (all_more HP.out HB.out HX.out)
        go_wp2
        go_round
        case rel => exact ⟨k + 1, by omega, by go_num, HN⟩
        case measure => simp [intOf]; omega
      · have HX : Hid (nameC b = false) := Lib.hid (by have := HC.out; unfold nameC; simp; omega)
        subst hc
        have HF := Lib.hid (nameB_bad (all_bad HB.out HX.out))
        go_wp2
        go_ret
        exact ⟨ret_b HF.out.symm, rfl⟩
      · have HX : Hid (nameC b = true) := Lib.hid (by have := HC.out; unfold nameC; simp; omega)
        have t1 : c < 97 := by omega
        have t2 : ¬ 122 < c := by omega
        have t3 : ¬ c < 48 := by omega
        have t4 : ¬ 57 < c := by omega
        have t5 : (c == 46) = false := beq_eq_false_iff_ne.2 (by omega)
        have t5n : (c != 46) = true := bne_iff_ne.2 (by omega)
        have t6 : (c == 95) = false := beq_eq_false_iff_ne.2 (by omega)
        have t6n : (c != 95) = true := bne_iff_ne.2 (by omega)
        have t7 : (c == 45) = false := beq_eq_false_iff_ne.2 (by omega)
        have t7n : (c != 45) = true := bne_iff_ne.2 (by omega)
        have HN := Lib.hid (all_more HP.out HB.out HX.out)
        go_wp2
        go_round
        case rel => exact ⟨k + 1, by omega, by go_num, HN⟩
        case measure => simp [intOf]; omega
      · have HX : Hid (nameC b = false) := Lib.hid (by have := HC.out; unfold nameC; simp; omega)
        have t1 : c < 97 := by omega
        have t2 : ¬ 122 < c := by omega
        have t3 : ¬ c < 48 := by omega
        have t4 : 57 < c := by omega
        have t5 : (c == 46) = false := beq_eq_false_iff_ne.2 (by omega)
        have t5n : (c != 46) = true := bne_iff_ne.2 (by omega)
        have t6 : (c == 95) = false := beq_eq_false_iff_ne.2 (by omega)
        have t6n : (c != 95) = true := bne_iff_ne.2 (by omega)
        have t7 : (c == 45) = false := beq_eq_false_iff_ne.2 (by omega)
        have t7n : (c != 45) = true := bne_iff_ne.2 (by omega)
        have HF := Lib.hid (nameB_bad (all_bad HB.out HX.out))
        go_wp2
        go_ret
        exact ⟨ret_b HF.out.symm, rfl⟩
      · have HX : Hid (nameC b = true) := Lib.hid (by have := HC.out; unfold nameC; simp; omega)
        subst hc
        have HN := Lib.hid (all_more HP.out HB.out HX.out)
        go_wp2
        go_round
        case rel => exact ⟨k + 1, by omega, by go_num, HN⟩
        case measure => simp [intOf]; omega
      · have HX : Hid (nameC b = false) := Lib.hid (by have := HC.out; unfold nameC; simp; omega)
        subst hc
        have HF := Lib.hid (nameB_bad (all_bad HB.out HX.out))
        go_wp2
        go_ret
        exact ⟨ret_b HF.out.symm, rfl⟩
      · have HX : Hid (nameC b = true) := Lib.hid (by have := HC.out; unfold nameC; simp; omega)
        have t1 : ¬ c < 97 := by omega
        have t2 : ¬ 122 < c := by omega
        have t3 : ¬ c < 48 := by omega
        have t4 : 57 < c := by omega
        have t5 : (c == 46) = false := beq_eq_false_iff_ne.2 (by omega)
        have t5n : (c != 46) = true := bne_iff_ne.2 (by omega)
        have t6 : (c == 95) = false := beq_eq_false_iff_ne.2 (by omega)
        have t6n : (c != 95) = true := bne_iff_ne.2 (by omega)
        have t7 : (c == 45) = false := beq_eq_false_iff_ne.2 (by omega)
        have t7n : (c != 45) = true := bne_iff_ne.2 (by omega)
        have HN := Lib.hid (all_more HP.out HB.out HX.out)
        go_wp2
        go_round
        case rel => exact ⟨k + 1, by omega, by go_num, HN⟩
        case measure => simp [intOf]; omega
      · have HX : Hid (nameC b = false) := Lib.hid (by have := HC.out; unfold nameC; simp; omega)
        have t1 : ¬ c < 97 := by omega
        have t2 : 122 < c := by omega
        have t3 : ¬ c < 48 := by omega
        have t4 : 57 < c := by omega
        have t5 : (c == 46) = false := beq_eq_false_iff_ne.2 (by omega)
        have t5n : (c != 46) = true := bne_iff_ne.2 (by omega)
        have t6 : (c == 95) = false := beq_eq_false_iff_ne.2 (by omega)
        have t6n : (c != 95) = true := bne_iff_ne.2 (by omega)
        have t7 : (c == 45) = false := beq_eq_false_iff_ne.2 (by omega)
        have t7n : (c != 45) = true := bne_iff_ne.2 (by omega)
        have HF := Lib.hid (nameB_bad (all_bad HB.out HX.out))
        go_wp2
        go_ret
        exact ⟨ret_b HF.out.symm, rfl⟩
    · obtain rfl : k = s.size := by omega
      have HF : Hid ((ls s).all nameC = true) := Lib.hid (by have := HP.out; rwa [List.take_of_length_le (by rw [ls_len]; omega)] at this)
      by_cases h0 : s.size = 0
      · have he : s.toList.isEmpty = true := by rw [isEmpty_ls, (nil_iff s).2 h0]; rfl
        have HR : Hid (nameB (ls s) = false) := Lib.hid (by rw [(nil_iff s).2 h0]; rfl)
        go_wp2
        go_ret
        exact ⟨ret_b HR.out.symm, rfl⟩
      have he : s.toList.isEmpty = false := by rw [isEmpty_ls]; simpa using fun h => h0 ((nil_iff s).1 h)
      by_cases h1 : ls s = [45]
      · have hd : (s.toList == [45]) = true := by rw [beq_ls]; exact decide_eq_true h1
        have HR : Hid (nameB (ls s) = false) := Lib.hid (by rw [h1]; rfl)
        clear h1
        go_wp2
        go_ret
        exact ⟨ret_b HR.out.symm, rfl⟩
      have hd : (s.toList == [45]) = false := by rw [beq_ls]; exact decide_eq_false h1
      have HR : Hid (nameB (ls s) = decide (s.size ≤ 32)) := Lib.hid (by
        rw [nameB_of HF.out, ← ls_len]
        have e1 : (ls s == []) = false := by simpa using fun h => h0 ((nil_iff s).1 h)
        have e2 : (ls s == [45]) = false := by simpa using h1
        rw [e1, e2]; rfl)
      clear h1
      by_cases hq : (s.size : Int) ≤ 32
      · go_wp2
        go_ret
        exact ⟨ret_b (by rw [HR.out]; simp; omega), rfl⟩
      · go_wp2
        go_ret
        exact ⟨ret_b (by rw [HR.out]; simp; omega), rfl⟩
end Go.Proofs.YtgepbkldgnjpfaaGreatDoor

/- social: amounts, right, wrong. -/
namespace Go.Proofs.YtgepbkldgnjpfaaGreatDoor
open Go.RowKit Go.Sort Go.BigFrame

theorem slNewC (w : World) (t : TypeId) (l : List Int) : Sl encC 1 (w.alloc (.cells (l.map (Value.int .i64)).toArray t)) (w.alloc (.cells (l.map (Value.int .i64)).toArray t)).heap.size (some ⟨w.heap.size, 0, none⟩) l := fun _ => by
  refine ⟨w.heap.size, 0, rfl, by simp, fun i x hx j u hu => ?_⟩
  have h := Bk.new w t (l.map (Value.int .i64)).toArray
  rw [h.cell]
  have hj : j = 0 := by
    rcases j with _ | j
    · rfl
    · simp [encC] at hu
  subst hj
  simp only [encC, List.getElem?_cons_zero, Option.some.injEq] at hu
  subst hu
  simp [hx]
theorem amtB_neg {c : Int} (h : c < 0) : amtB c = false := decide_eq_false (by omega)
theorem amtB_fit {c : Int} (h : ¬ c < 0) : amtB c = fitB c := by
  unfold amtB fitB
  by_cases k : c.natAbs ≤ 1125899906842624
  · rw [decide_eq_true k, decide_eq_true (by omega)]
  · rw [decide_eq_false k, decide_eq_false (by omega)]
set_option maxHeartbeats 1000000 in
theorem so_amounts (l : List Int) (A : Option Addr) (cap : Nat) (w : World) (hn : l.length ≤ 1000000) (hs : Sl encC 1 w w.heap.size A l) :
    Calls Tryz.prog 140 #[.slice A l.length cap] w fun e w' => e = .returned (.bool (l.all amtB)) ∧ w = w' := by
  obtain ⟨r, hr⟩ : ∃ r, l.all amtB = r := ⟨_, rfl⟩
  rw [hr]
  have HR := Lib.hid hr
  clear hr
  have HS := Lib.hid hs
  clear hs
  go_enter Tryz.func140, Tryz.ntmps140
  go_wp2
  go_loopw [7] (fun iv wr => ∃ (n : Nat), n ≤ l.length ∧ iv = .int .i64 n ∧ Hid ((l.drop n).all amtB = r) ∧ w = wr) (fun iv _ => l.length - (intOf iv).toNat)
  case atStart => exact ⟨0, Nat.zero_le _, rfl, HR, rfl⟩
  case round =>
    obtain ⟨n, hn1, rfl, HA, rfl⟩ := hrel
    by_cases hlt : n < l.length
    · obtain ⟨b, off, rfl, hB, hc⟩ := HS.out (by intro h; simp [h] at hlt)
      obtain ⟨x, hx⟩ : ∃ x, l[n]? = some x := ⟨_, List.getElem?_eq_getElem hlt⟩
      have C0 : w.cell? ⟨b, off + n, none⟩ = some (.int .i64 x) := by simpa using hc n _ hx 0 _ rfl
      have hdrop : l.drop n = x :: l.drop (n + 1) := by
        rw [List.drop_eq_getElem_cons hlt]
        congr 1
        have := List.getElem?_eq_getElem hlt
        rw [hx] at this
        exact (Option.some.inj this).symm
      have HD : Hid ((amtB x && (l.drop (n + 1)).all amtB) = r) := Lib.hid (by rw [← HA.out, hdrop, List.all_cons])
      clear hc hx hdrop
      by_cases h0 : x < 0
      · have d0 : decide (x < (0 : Int)) = true := decide_eq_true h0
        have HE : Hid (r = false) := Lib.hid (by rw [← HD.out, amtB_neg h0]; rfl)
        clear h0
        go_wp2
        go_ret
        rw [HE.out]
        exact ⟨rfl, rfl⟩
      · have d0 : decide (x < (0 : Int)) = false := decide_eq_false h0
        have HF := Lib.hid (amtB_fit h0)
        clear h0
        go_wp2_with fail
        refine (ce_fit _ _).mono ?_
        rintro e w1 ⟨rfl, rfl⟩
        obtain ⟨f, hf⟩ : ∃ f, fitB x = f := ⟨_, rfl⟩
        rw [hf] at HF ⊢
        cases f with
        | false =>
          have HE : Hid (r = false) := Lib.hid (by rw [← HD.out, HF.out]; rfl)
          go_wp2
          go_ret
          rw [HE.out]
          exact ⟨rfl, rfl⟩
        | true =>
          have HE : Hid ((l.drop (n + 1)).all amtB = r) := Lib.hid (by rw [← HD.out, HF.out]; rfl)
          go_wp2
          exact ⟨⟨n + 1, by omega, by go_num, HE, trivial⟩, by simp [intOf]; omega⟩
    · obtain rfl : n = l.length := by omega
      go_wp2
      go_ret
      have h := HA.out
      rw [List.drop_length] at h
      rw [← h]
      exact ⟨rfl, rfl⟩
/-- Sums that are right. -/
def sumB (a b c d : Int) : Bool := fitB a && (amtB b && (amtB c && amtB d))
set_option maxHeartbeats 1000000 in
theorem so_right (a b c d : Int) (w : World) : Calls Tryz.prog 100 #[.agg #[.int .i64 a, .int .i64 b, .int .i64 c, .int .i64 d]] w fun e w' => e = .returned (.bool (sumB a b c d)) ∧ Below w.heap.size w w' := by
  have HR : Hid (sumB a b c d = (fitB a && ([b, c, d] : List Int).all amtB)) := Lib.hid (by simp [sumB])
  go_enter Tryz.func100, Tryz.ntmps100
  go_wp2_with fail
  refine (ce_fit _ _).mono ?_
  rintro e w1 ⟨rfl, rfl⟩
  obtain ⟨f, hf⟩ : ∃ f, fitB a = f := ⟨_, rfl⟩
  rw [hf] at HR ⊢
  clear hf
  obtain ⟨r, hr⟩ : ∃ r, ([b, c, d] : List Int).all amtB = r := ⟨_, rfl⟩
  have HX : Hid (∀ A cap W, Sl encC 1 W W.heap.size A [b, c, d] → Calls Tryz.prog 140 #[.slice A 3 cap] W fun e w' => e = .returned (.bool r) ∧ W = w') := Lib.hid fun A cap W h => by rw [← hr]; exact so_amounts [b, c, d] A cap W (by simp) h
  rw [hr] at HR
  clear hr
  cases f with
  | false =>
    go_wp2
    go_ret
    rw [HR.out]
    exact ⟨rfl, bAlloc _ _⟩
  | true =>
    go_wp2_with fail
    refine (HX.out _ _ _ ?_).mono ?_
    · have := slNewC (w.alloc (.cells #[.int .i64 a, .int .i64 b, .int .i64 c, .int .i64 d] 89)) 28 [b, c, d]
      simpa using this
    rintro e w1 ⟨rfl, rfl⟩
    go_wp2
    go_ret
    rw [HR.out]
    exact ⟨rfl, bTrans (bAlloc _ _) (bAlloc _ _)⟩

/-- A scheme: its code, both sides' rates, its ceiling. -/
abbrev Sch := ByteArray × Int × Int × Int
def encH (x : Sch) : List Value := [.string x.1, .int .i64 x.2.1, .int .i64 x.2.2.1, .int .i64 x.2.2.2]
theorem encH_len (x : Sch) : (encH x).length = 4 := rfl
/-- What is wrong with a scheme. -/
def wroE (x : Sch) : Int := if nameB (ls x.1) = false then 12 else if x.2.1 < 0 ∨ 1000000 < x.2.1 ∨ x.2.2.1 < 0 ∨ 1000000 < x.2.2.1 ∨ amtB x.2.2.2 = false then 2 else 0
set_option maxHeartbeats 2000000 in
theorem so_wrong (co : ByteArray) (wo fi ce : Int) (w : World) (hco : co.size ≤ 9223372036854775807) : Calls Tryz.prog 101 #[.agg #[.string co, .int .i64 wo, .int .i64 fi, .int .i64 ce]] w fun e w' => e = .returned (.int .i64 (wroE (co, wo, fi, ce))) ∧ Below w.heap.size w w' := by
  have HE0 : Hid (wroE (co, wo, fi, ce) = if nameB (ls co) = false then 12 else if wo < 0 ∨ 1000000 < wo ∨ fi < 0 ∨ 1000000 < fi ∨ amtB ce = false then 2 else 0) := Lib.hid rfl
  obtain ⟨r, hr⟩ : ∃ r, wroE (co, wo, fi, ce) = r := ⟨_, rfl⟩
  rw [hr] at HE0 ⊢
  have HNM := Lib.hid (fun W => so_named co W hco)
  obtain ⟨q, hq⟩ : ∃ r, ([ce] : List Int).all amtB = r := ⟨_, rfl⟩
  have HX : Hid (∀ A cap W, Sl encC 1 W W.heap.size A [ce] → Calls Tryz.prog 140 #[.slice A 1 cap] W fun e w' => e = .returned (.bool q) ∧ W = w') := Lib.hid fun A cap W h => by rw [← hq]; exact so_amounts [ce] A cap W (by simp) h
  have HQ : Hid (amtB ce = q) := Lib.hid (by rw [← hq]; simp)
  rw [HQ.out] at HE0
  obtain ⟨nm, hnm⟩ : ∃ y, nameB (ls co) = y := ⟨_, rfl⟩
  rw [hnm] at HE0 HNM
  clear hr hq hnm hco
  obtain ⟨fb, hfb⟩ : ∃ x, w.heap.size = x := ⟨_, rfl⟩
  obtain ⟨wa, hwa⟩ : ∃ x, w.alloc (.cells #[.string co, .int .i64 wo, .int .i64 fi, .int .i64 ce] 57) = x := ⟨_, rfl⟩
  have hb0 : Bk fb 57 #[.string co, .int .i64 wo, .int .i64 fi, .int .i64 ce] wa := by rw [← hwa, ← hfb]; exact Bk.new _ _ _
  have HBA : Hid (Below w.heap.size w wa) := Lib.hid (by rw [← hwa]; exact bAlloc w _)
  have hlt := hb0.lt
  have C0 : wa.cell? ⟨fb, 0, none⟩ = some (.string co) := hb0.cell 0
  have C1 : wa.cell? ⟨fb, 1, none⟩ = some (.int .i64 wo) := hb0.cell 1
  have C2 : wa.cell? ⟨fb, 2, none⟩ = some (.int .i64 fi) := hb0.cell 2
  have C3 : wa.cell? ⟨fb, 3, none⟩ = some (.int .i64 ce) := hb0.cell 3
  clear hb0
  go_enter Tryz.func101, Tryz.ntmps101
  go_wp2_with fail
  clear hwa hfb
  refine (HNM.out _).mono ?_
  rintro e w1 ⟨rfl, rfl⟩
  cases nm with
  | false =>
    have HE : Hid (r = 12) := Lib.hid (by rw [HE0.out, if_pos rfl])
    go_wp2
    go_ret
    rw [HE.out]
    exact ⟨rfl, HBA.out⟩
  | true =>
  have HE1 : Hid (r = if wo < 0 ∨ 1000000 < wo ∨ fi < 0 ∨ 1000000 < fi ∨ q = false then 2 else 0) := Lib.hid (by rw [HE0.out]; simp only [Bool.true_eq_false, ↓reduceIte])
  by_cases h1 : wo < 0
  · have d1 : decide (wo < (0 : Int)) = true := decide_eq_true h1
    have HE : Hid (r = 2) := Lib.hid (by rw [HE1.out, if_pos (by omega)])
    clear h1
    go_wp2
    go_ret
    rw [HE.out]
    exact ⟨rfl, HBA.out⟩
  have d1 : decide (wo < (0 : Int)) = false := decide_eq_false h1
  by_cases h2 : 1000000 < wo
  · have d2 : decide ((1000000 : Int) < wo) = true := decide_eq_true h2
    have HE : Hid (r = 2) := Lib.hid (by rw [HE1.out, if_pos (by omega)])
    clear h1 h2
    go_wp2
    go_ret
    rw [HE.out]
    exact ⟨rfl, HBA.out⟩
  have d2 : decide ((1000000 : Int) < wo) = false := decide_eq_false h2
  by_cases h3 : fi < 0
  · have d3 : decide (fi < (0 : Int)) = true := decide_eq_true h3
    have HE : Hid (r = 2) := Lib.hid (by rw [HE1.out, if_pos (by omega)])
    clear h1 h2 h3
    go_wp2
    go_ret
    rw [HE.out]
    exact ⟨rfl, HBA.out⟩
  have d3 : decide (fi < (0 : Int)) = false := decide_eq_false h3
  by_cases h4 : 1000000 < fi
  · have d4 : decide ((1000000 : Int) < fi) = true := decide_eq_true h4
    have HE : Hid (r = 2) := Lib.hid (by rw [HE1.out, if_pos (by omega)])
    clear h1 h2 h3 h4
    go_wp2
    go_ret
    rw [HE.out]
    exact ⟨rfl, HBA.out⟩
  have d4 : decide ((1000000 : Int) < fi) = false := decide_eq_false h4
  have HE2 : Hid (r = if q = false then 2 else 0) := Lib.hid (by
    rw [HE1.out]
    cases q
    · rw [if_pos (by simp), if_pos rfl]
    · rw [if_neg (by simp; omega), if_neg (by simp)])
  clear h1 h2 h3 h4
  go_wp2_with fail
  refine (HX.out _ _ _ ?_).mono ?_
  · have := slNewC wa 28 [ce]
    simpa using this
  rintro e w1 ⟨rfl, rfl⟩
  cases q with
  | false =>
    have HE : Hid (r = 2) := Lib.hid (by rw [HE2.out, if_pos rfl])
    go_wp2
    go_ret
    rw [HE.out]
    exact ⟨rfl, bTrans HBA.out (bAlloc _ _)⟩
  | true =>
    have HE : Hid (r = 0) := Lib.hid (by rw [HE2.out, if_neg (by simp)])
    go_wp2
    go_ret
    rw [HE.out]
    exact ⟨rfl, bTrans HBA.out (bAlloc _ _)⟩
end Go.Proofs.YtgepbkldgnjpfaaGreatDoor
