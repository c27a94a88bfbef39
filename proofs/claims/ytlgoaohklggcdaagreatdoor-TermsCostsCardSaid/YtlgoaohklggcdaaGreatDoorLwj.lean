import Derived.Test.YtlgoaohklggcdaaGreatDoorLwh
/- ref16.name. Printed by gen/mklw16j.py out of ref08.Word's walk. -/
namespace Go.Proofs.YtlgoaohklggcdaaGreatDoor
open Go.RowKit Go.Sort

set_option linter.unusedVariables false in
set_option maxHeartbeats 4000000 in
theorem r16_name (s : ByteArray) (w : World) (hs : s.size ≤ 1000000) : Calls Tryz.prog 65 #[.string s] w fun e w' => e = .returned (.bool (nameB (ls s))) ∧ w = w' := by
  go_enter Tryz.func65, Tryz.ntmps65
  by_cases h0 : ls s = []
  · have hd : (s.toList == []) = true := by rw [beq_ls]; exact decide_eq_true h0
    have HR : Hid (nameB (ls s) = false) := Lib.hid (by rw [h0]; rfl)
    clear h0
    go_wp2
    go_ret
    exact ⟨ret_b HR.out.symm, rfl⟩
  have hd0 : (s.toList == []) = false := by rw [beq_ls]; exact decide_eq_false h0
  by_cases h1 : ls s = [45]
  · have hd : (s.toList == [45]) = true := by rw [beq_ls]; exact decide_eq_true h1
    have HR : Hid (nameB (ls s) = false) := Lib.hid (by rw [h1]; rfl)
    clear h1 h0
    go_wp2
    go_ret
    exact ⟨ret_b HR.out.symm, rfl⟩
  have hd1 : (s.toList == [45]) = false := by rw [beq_ls]; exact decide_eq_false h1
  have HR : Hid ((ls s).all nameC = true → nameB (ls s) = decide (s.size ≤ 32)) := Lib.hid (fun hF => by
    rw [nameB_of hF, ← ls_len]
    have e1 : (ls s == []) = false := by simpa using h0
    have e2 : (ls s == [45]) = false := by simpa using h1
    rw [e1, e2]; rfl)
  have HL : Hid (32 < s.size → nameB (ls s) = false) := Lib.hid (fun h => by
    unfold nameB
    rw [ls_len]
    simp
    omega)
  clear h0 h1
  by_cases hq : (32 : Int) < (s.size : Int)
  · go_wp2
    go_ret
    exact ⟨ret_b (HL.out (by omega)).symm, rfl⟩
  go_wp2
  go_loop [3] (fun iv => ∃ k : Nat, k ≤ s.size ∧ iv = .int .i64 k ∧ Hid (((ls s).take k).all nameC = true)) (fun iv => s.size - (intOf iv).toNat)
  case atStart => exact ⟨0, Nat.zero_le _, rfl, Lib.hid rfl⟩
  case round =>
    obtain ⟨k, hk, rfl, HP⟩ := hrel
    by_cases hlt : k < s.size
    · have hix := run_at (P := Tryz.prog) 9 Tryz.underlying9 s k hlt
      have hbd := byteAt_bd s k
      obtain ⟨b, hb, hcb⟩ := byte_some hlt
      have HB := Lib.hid hb
      have HC := Lib.hid hcb
      clear hb hcb
      generalize byteAt s k = c at *
      have hcl : (c < 45) ∨ (c = 45) ∨ (c = 46) ∨ (c = 47) ∨ (48 ≤ c ∧ c ≤ 57) ∨ (58 ≤ c ∧ c < 95) ∨ (c = 95) ∨ (c = 96) ∨ (97 ≤ c ∧ c ≤ 122) ∨ (122 < c) := by omega
      rcases hcl with hc | hc | hc | hc | hc | hc | hc | hc | hc | hc
      · have HX : Hid (nameC b = false) := Lib.hid (by have := HC.out; unfold nameC; simp; omega)
        have t1 : c < 97 := by omega
        have t1d : decide (97 ≤ c) = false := decide_eq_false (by omega)
        have t2 : ¬ 122 < c := by omega
        have t2d : decide (c ≤ 122) = true := decide_eq_true (by omega)
        have t3 : c < 48 := by omega
        have t3d : decide (48 ≤ c) = false := decide_eq_false (by omega)
        have t4 : ¬ 57 < c := by omega
        have t4d : decide (c ≤ 57) = true := decide_eq_true (by omega)
        have t5 : (c == 46) = false := beq_eq_false_iff_ne.2 (by omega)
        have t5n : (c != 46) = true := bne_iff_ne.2 (by omega)
        have t6 : (c == 95) = false := beq_eq_false_iff_ne.2 (by omega)
        have t6n : (c != 95) = true := bne_iff_ne.2 (by omega)
        have t7 : (c == 45) = false := beq_eq_false_iff_ne.2 (by omega)
        have t7n : (c != 45) = true := bne_iff_ne.2 (by omega)
        have HF := Lib.hid (nameB_bad (all_bad HB.out HX.out))
        go_wp2
        go_ret
        exact ⟨ret_b HF.out.symm, rfl⟩
      · have HX : Hid (nameC b = true) := Lib.hid (by have := HC.out; unfold nameC; simp; omega)
        subst hc
        have HN := Lib.hid (all_more HP.out HB.out HX.out)
        go_wp2
        go_round
        case rel => exact ⟨k + 1, by omega, by go_num, HN⟩
        case measure => simp [intOf]; omega
      · have HX : Hid (nameC b = true) := Lib.hid (by have := HC.out; unfold nameC; simp; omega)
        subst hc
        have HN := Lib.hid (all_more HP.out HB.out HX.out)
        go_wp2
        go_round
        case rel => exact ⟨k + 1, by omega, by go_num, HN⟩
        case measure => simp [intOf]; omega
      · have HX : Hid (nameC b = false) := Lib.hid (by have := HC.out; unfold nameC; simp; omega)
        subst hc
        have HF := Lib.hid (nameB_bad (all_bad HB.out HX.out))
        go_wp2
        go_ret
        exact ⟨ret_b HF.out.symm, rfl⟩
      · have HX : Hid (nameC b = true) := Lib.hid (by have := HC.out; unfold nameC; simp; omega)
        have t1 : c < 97 := by omega
        have t1d : decide (97 ≤ c) = false := decide_eq_false (by omega)
        have t2 : ¬ 122 < c := by omega
        have t2d : decide (c ≤ 122) = true := decide_eq_true (by omega)
        have t3 : ¬ c < 48 := by omega
        have t3d : decide (48 ≤ c) = true := decide_eq_true (by omega)
        have t4 : ¬ 57 < c := by omega
        have t4d : decide (c ≤ 57) = true := decide_eq_true (by omega)
        have t5 : (c == 46) = false := beq_eq_false_iff_ne.2 (by omega)
        have t5n : (c != 46) = true := bne_iff_ne.2 (by omega)
        have t6 : (c == 95) = false := beq_eq_false_iff_ne.2 (by omega)
        have t6n : (c != 95) = true := bne_iff_ne.2 (by omega)
        have t7 : (c == 45) = false := beq_eq_false_iff_ne.2 (by omega)
        have t7n : (c != 45) = true := bne_iff_ne.2 (by omega)
        have HN := Lib.hid (all_more HP.out HB.out HX.out)
        go_wp2
        go_round
        case rel => exact ⟨k + 1, by omega, by go_num, HN⟩
        case measure => simp [intOf]; omega
      · have HX : Hid (nameC b = false) := Lib.hid (by have := HC.out; unfold nameC; simp; omega)
        have t1 : c < 97 := by omega
        have t1d : decide (97 ≤ c) = false := decide_eq_false (by omega)
        have t2 : ¬ 122 < c := by omega
        have t2d : decide (c ≤ 122) = true := decide_eq_true (by omega)
        have t3 : ¬ c < 48 := by omega
        have t3d : decide (48 ≤ c) = true := decide_eq_true (by omega)
        have t4 : 57 < c := by omega
        have t4d : decide (c ≤ 57) = false := decide_eq_false (by omega)
        have t5 : (c == 46) = false := beq_eq_false_iff_ne.2 (by omega)
        have t5n : (c != 46) = true := bne_iff_ne.2 (by omega)
        have t6 : (c == 95) = false := beq_eq_false_iff_ne.2 (by omega)
        have t6n : (c != 95) = true := bne_iff_ne.2 (by omega)
        have t7 : (c == 45) = false := beq_eq_false_iff_ne.2 (by omega)
        have t7n : (c != 45) = true := bne_iff_ne.2 (by omega)
        have HF := Lib.hid (nameB_bad (all_bad HB.out HX.out))
        go_wp2
        go_ret
        exact ⟨ret_b HF.out.symm, rfl⟩
      · have HX : Hid (nameC b = true) := Lib.hid (by have := HC.out; unfold nameC; simp; omega)
        subst hc
        have HN := Lib.hid (all_more HP.out HB.out HX.out)
        go_wp2
        go_round
        case rel => exact ⟨k + 1, by omega, by go_num, HN⟩
        case measure => simp [intOf]; omega
      · have HX : Hid (nameC b = false) := Lib.hid (by have := HC.out; unfold nameC; simp; omega)
        subst hc
        have HF := Lib.hid (nameB_bad (all_bad HB.out HX.out))
        go_wp2
        go_ret
        exact ⟨ret_b HF.out.symm, rfl⟩
      · have HX : Hid (nameC b = true) := Lib.hid (by have := HC.out; unfold nameC; simp; omega)
        have t1 : ¬ c < 97 := by omega
        have t1d : decide (97 ≤ c) = true := decide_eq_true (by omega)
        have t2 : ¬ 122 < c := by omega
        have t2d : decide (c ≤ 122) = true := decide_eq_true (by omega)
        have t3 : ¬ c < 48 := by omega
        have t3d : decide (48 ≤ c) = true := decide_eq_true (by omega)
        have t4 : 57 < c := by omega
        have t4d : decide (c ≤ 57) = false := decide_eq_false (by omega)
        have t5 : (c == 46) = false := beq_eq_false_iff_ne.2 (by omega)
        have t5n : (c != 46) = true := bne_iff_ne.2 (by omega)
        have t6 : (c == 95) = false := beq_eq_false_iff_ne.2 (by omega)
        have t6n : (c != 95) = true := bne_iff_ne.2 (by omega)
        have t7 : (c == 45) = false := beq_eq_false_iff_ne.2 (by omega)
        have t7n : (c != 45) = true := bne_iff_ne.2 (by omega)
        have HN := Lib.hid (all_more HP.out HB.out HX.out)
        go_wp2
        go_round
        case rel => exact ⟨k + 1, by omega, by go_num, HN⟩
        case measure => simp [intOf]; omega
      · have HX : Hid (nameC b = false) := Lib.hid (by have := HC.out; unfold nameC; simp; omega)
        have t1 : ¬ c < 97 := by omega
        have t1d : decide (97 ≤ c) = true := decide_eq_true (by omega)
        have t2 : 122 < c := by omega
        have t2d : decide (c ≤ 122) = false := decide_eq_false (by omega)
        have t3 : ¬ c < 48 := by omega
        have t3d : decide (48 ≤ c) = true := decide_eq_true (by omega)
        have t4 : 57 < c := by omega
        have t4d : decide (c ≤ 57) = false := decide_eq_false (by omega)
        have t5 : (c == 46) = false := beq_eq_false_iff_ne.2 (by omega)
        have t5n : (c != 46) = true := bne_iff_ne.2 (by omega)
        have t6 : (c == 95) = false := beq_eq_false_iff_ne.2 (by omega)
        have t6n : (c != 95) = true := bne_iff_ne.2 (by omega)
        have t7 : (c == 45) = false := beq_eq_false_iff_ne.2 (by omega)
        have t7n : (c != 45) = true := bne_iff_ne.2 (by omega)
        have HF := Lib.hid (nameB_bad (all_bad HB.out HX.out))
        go_wp2
        go_ret
        exact ⟨ret_b HF.out.symm, rfl⟩
    · obtain rfl : k = s.size := by omega
      have HF : Hid ((ls s).all nameC = true) := Lib.hid (by have := HP.out; rwa [List.take_of_length_le (by rw [ls_len]; omega)] at this)
      go_wp2
      go_ret
      exact ⟨ret_b (by rw [HR.out HF.out]; simp; omega), rfl⟩
end Go.Proofs.YtlgoaohklggcdaaGreatDoor
