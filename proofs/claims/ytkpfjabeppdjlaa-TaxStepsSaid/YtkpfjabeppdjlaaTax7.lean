/- Contracts of layer 24: the reference's ToDate, and both Steps and Singles. -/
import Derived.Test.YtkpfjabeppdjlaaTax6
namespace Go.Proofs.Ytkpfjabeppdjlaa
open Go.RowKit

theorem toDateV_ok {base index of al ex : Int} {t : List (Int × Int)} (h : (toDateV base index of al ex t).2 = 0) :
    (1 ≤ index ∧ index ≤ of ∧ of ≤ 400) ∧ fitsB base = true ∧ amountB al = true ∧ amountB ex = true ∧ chkE t = 0 ∧ toDateV base index of al ex t = scaledV (tot (max 0 (base * of - al * index)) index t t.length) of := by
  unfold toDateV at h ⊢
  by_cases h1 : index < 1 ∨ of < index ∨ 400 < of
  · rw [if_pos h1] at h; cases h
  rw [if_neg h1] at h ⊢
  by_cases h2 : fitsB base = false
  · rw [if_pos h2] at h; cases h
  rw [if_neg h2] at h ⊢
  by_cases h3 : amountB al = false
  · rw [if_pos h3] at h; cases h
  rw [if_neg h3] at h ⊢
  by_cases h4 : amountB ex = false
  · rw [if_pos h4] at h; cases h
  rw [if_neg h4] at h ⊢
  unfold scaledE at h ⊢
  by_cases h5 : chkE t = 0
  · rw [if_neg (by simp [h5])]
    exact ⟨by omega, by simpa using h2, by simpa using h3, by simpa using h4, h5, rfl⟩
  · rw [if_pos h5] at h; exact absurd h h5
theorem toDateV_bad {base index of al ex : Int} {t : List (Int × Int)} (h : (toDateV base index of al ex t).2 ≠ 0) : (toDateV base index of al ex t).1 = 0 := by
  unfold toDateV at h ⊢
  split
  · rfl
  split
  · rfl
  split
  · rfl
  split
  · rfl
  rename_i h1 h2 h3 h4
  rw [if_neg h1, if_neg h2, if_neg h3, if_neg h4] at h
  unfold scaledE at h ⊢
  split
  · rfl
  rename_i h5
  rw [if_neg h5] at h
  unfold scaledV at h ⊢
  split
  · rfl
  rename_i h6
  rw [if_neg h6] at h
  exact absurd rfl h
theorem scaledV_bd {T of : Int} (hT : 0 ≤ T) (hof : 1 ≤ of) : 0 ≤ (scaledV T of).1 ∧ (scaledV T of).1 ≤ 1125899906842624 := by
  unfold scaledV
  split
  · exact ⟨by omega, by omega⟩
  · rename_i h
    refine ⟨?_, by omega⟩
    have := Int.ediv_nonneg hT (show 0 ≤ of * 1000000 by omega)
    unfold half
    dsimp only
    split <;> omega
theorem toDateV_bd {base index of al ex : Int} {t : List (Int × Int)} : 0 ≤ (toDateV base index of al ex t).1 ∧ (toDateV base index of al ex t).1 ≤ 1125899906842624 := by
  by_cases h : (toDateV base index of al ex t).2 = 0
  · obtain ⟨h1, _, _, _, h5, h6⟩ := toDateV_ok h
    rw [h6]
    exact scaledV_bd (tot_nonneg (right_of_chk h5) _ (Nat.le_refl _)) (by omega)
  · rw [toDateV_bad h]; omega
theorem scaledV_e {T of : Int} : (scaledV T of).2 = 0 ∨ (scaledV T of).1 = 0 := by
  unfold scaledV
  split
  · exact .inr rfl
  · exact .inl rfl
theorem snd_pair {T of : Int} (h : ((scaledV T of).2 != 0) = true) : scaledV T of = (0, (scaledV T of).2) := by
  rcases scaledV_e (T := T) (of := of) with h1 | h1
  · simp [h1] at h
  · exact Prod.ext h1 rfl
theorem fst_pair {T of : Int} (h : ((scaledV T of).2 != 0) = false) : scaledV T of = ((scaledV T of).1, 0) := by
  simp at h
  exact Prod.ext rfl h

set_option maxRecDepth 100000 in
set_option maxHeartbeats 2000000 in
theorem ref24_ToDate (base index of al ex : Int) (A : Option Addr) (cap : Nat) (t : List (Int × Int)) (w : World) (hcap : t.length ≤ 9223372036854775807) (hs : Sl encBand 2 w w.heap.size A t) :
    Calls Try.prog 14 #[.int .i64 base, .int .i64 index, .int .i64 of, cardV al ex A t.length cap] w fun e W' =>
      e = .returned (.tuple #[.int .i64 (toDateV base index of al ex t).1, .int .i64 (toDateV base index of al ex t).2]) ∧ Below w.heap.size w W' := by
  unfold cardV
  by_cases h1 : index < 1 ∨ of < index ∨ 400 < of
  · have HF : Hid (toDateV base index of al ex t = (0, 2)) := by show _ = _; unfold toDateV; rw [if_pos h1]
    by_cases i1 : index < 1
    · go_enter Try.func14, Try.ntmps14
      go_wp2_with fail
      go_ret2
      exact ⟨pair_ret HF.out, (Below.refl _ _).alloc (Nat.le_refl _) _⟩
    · by_cases i2 : of < index
      · go_enter Try.func14, Try.ntmps14
        go_wp2_with fail
        go_ret2
        exact ⟨pair_ret HF.out, (Below.refl _ _).alloc (Nat.le_refl _) _⟩
      · have i3 : 400 < of := by omega
        go_enter Try.func14, Try.ntmps14
        go_wp2_with fail
        go_ret2
        exact ⟨pair_ret HF.out, (Below.refl _ _).alloc (Nat.le_refl _) _⟩
  · by_cases hf : fitsB base = true
    · by_cases ha : amountB al = true
      · by_cases he : amountB ex = true
        · have hbd := card_bd hf ha (show 1 ≤ index by omega) (show index ≤ of by omega) (show of ≤ 400 by omega)
          obtain ⟨b1, b2, b3, b4⟩ := hbd
          have HF : Hid (toDateV base index of al ex t = scaledE (max 0 (base * of - al * index)) index of t) := by
            show _ = _
            unfold toDateV
            rw [if_neg h1, if_neg (by simp [hf]), if_neg (by simp [ha]), if_neg (by simp [he])]
          obtain ⟨i1, i2, i3⟩ : 1 ≤ index ∧ index ≤ of ∧ of ≤ 400 := by omega
          clear h1
          have fa : fitsB al = true := by unfold fitsB; unfold amountB at ha; simp at ha ⊢; omega
          have fe : fitsB ex = true := by unfold fitsB; unfold amountB at he; simp at he ⊢; omega
          have a0 : 0 ≤ al := by unfold amountB at ha; simp at ha; omega
          have e0 : 0 ≤ ex := by unfold amountB at he; simp at he; omega
          have hsb := (hs.below ((Below.refl _ w).alloc (Nat.le_refl _) (.cells #[.int .i64 al, .int .i64 ex, .slice A t.length cap] 28))).more (B' := (w.alloc (.cells #[.int .i64 al, .int .i64 ex, .slice A t.length cap] 28)).heap.size) (by simp)
          by_cases hE : chkE t = 0
          · have hE1 : (chkE t != 0) = false := by simp [hE]
            have HS : Hid (toDateV base index of al ex t = scaledV (tot (max 0 (base * of - al * index)) index t t.length) of) := by show _ = _; rw [HF.out]; unfold scaledE; rw [if_neg (by simp [hE])]
            have HR := Lib.hid (right_of_chk hE)
            have HE := Lib.hid hE
            have HSB := Lib.hid hsb
            clear hE hsb
            go_enter Try.func14, Try.ntmps14
            go_wp2_with (first | (go_at_call 18; refine (ref24_fits _ _).mono ?_; rintro e w' ⟨rfl, rfl⟩) | (go_at_call 21; refine (ref21_Check t A cap _ hcap HSB.out).mono ?_; rintro e w1 ⟨rfl, hb1⟩; obtain ⟨hc1, hf1⟩ := bcell hb1))
            all_goals
              refine (ref21_Scaled _ index of t A cap _ HR.out (by omega) (by omega) i1 i2 i3 ((HSB.out.below hb1).more hb1.size)).mono ?_
              rintro e w2 ⟨rfl, hb2⟩
              go_wp2_with fail
              all_goals
                go_ret2
                refine ⟨?_, (((Below.refl _ w).alloc (Nat.le_refl _) _).trans (hb1.mono (by simp))).trans (hb2.mono (by have := hb1.size; simp at this; omega))⟩
              · first
                  | exact pair_ret (by rw [HS.out, show max 0 (base * of - al * index) = base * of - al * index by omega]; exact snd_pair (by assumption))
                  | exact pair_ret (by rw [HS.out, show max 0 (base * of - al * index) = 0 by omega]; exact snd_pair (by assumption))
              · first
                  | exact pair_ret (by rw [HS.out, show max 0 (base * of - al * index) = base * of - al * index by omega]; exact fst_pair (by assumption))
                  | exact pair_ret (by rw [HS.out, show max 0 (base * of - al * index) = 0 by omega]; exact fst_pair (by assumption))
          · have hE1 : (chkE t != 0) = true := by simp [hE]
            have HS : Hid (toDateV base index of al ex t = (0, chkE t)) := by show _ = _; rw [HF.out]; unfold scaledE; rw [if_pos hE]
            have HSB := Lib.hid hsb
            clear hE hsb
            go_enter Try.func14, Try.ntmps14
            go_wp2_with (first | (go_at_call 18; refine (ref24_fits _ _).mono ?_; rintro e w' ⟨rfl, rfl⟩) | (go_at_call 21; refine (ref21_Check t A cap _ hcap HSB.out).mono ?_; rintro e w1 ⟨rfl, hb1⟩))
            go_ret2
            exact ⟨pair_ret HS.out, ((Below.refl _ w).alloc (Nat.le_refl _) _).trans (hb1.mono (by simp))⟩
        · have he' : amountB ex = false := by simpa using he
          have HF : Hid (toDateV base index of al ex t = (0, 2)) := by
            show _ = _
            unfold toDateV
            rw [if_neg h1, if_neg (by simp [hf]), if_neg (by simp [ha]), if_pos he']
          clear he
          have fa : fitsB al = true := by unfold fitsB; unfold amountB at ha; simp at ha ⊢; omega
          have a0 : 0 ≤ al := by unfold amountB at ha; simp at ha; omega
          by_cases e0 : ex < 0
          · obtain ⟨i1, i2, i3⟩ : 1 ≤ index ∧ index ≤ of ∧ of ≤ 400 := by omega
            clear h1
            go_enter Try.func14, Try.ntmps14
            go_wp2_with (go_at_call 18; refine (ref24_fits _ _).mono ?_; rintro e w' ⟨rfl, rfl⟩)
            all_goals (go_ret2; exact ⟨pair_ret HF.out, (Below.refl _ _).alloc (Nat.le_refl _) _⟩)
          · have fe : fitsB ex = false := by unfold fitsB; unfold amountB at he'; simp at he' ⊢; omega
            obtain ⟨i1, i2, i3⟩ : 1 ≤ index ∧ index ≤ of ∧ of ≤ 400 := by omega
            clear h1
            go_enter Try.func14, Try.ntmps14
            go_wp2_with (go_at_call 18; refine (ref24_fits _ _).mono ?_; rintro e w' ⟨rfl, rfl⟩)
            all_goals (go_ret2; exact ⟨pair_ret HF.out, (Below.refl _ _).alloc (Nat.le_refl _) _⟩)
      · have ha' : amountB al = false := by simpa using ha
        have HF : Hid (toDateV base index of al ex t = (0, 2)) := by
          show _ = _
          unfold toDateV
          rw [if_neg h1, if_neg (by simp [hf]), if_pos ha']
        clear ha
        by_cases a0 : al < 0
        · obtain ⟨i1, i2, i3⟩ : 1 ≤ index ∧ index ≤ of ∧ of ≤ 400 := by omega
          clear h1
          go_enter Try.func14, Try.ntmps14
          go_wp2_with (go_at_call 18; refine (ref24_fits _ _).mono ?_; rintro e w' ⟨rfl, rfl⟩)
          all_goals (go_ret2; exact ⟨pair_ret HF.out, (Below.refl _ _).alloc (Nat.le_refl _) _⟩)
        · have fa : fitsB al = false := by unfold fitsB; unfold amountB at ha'; simp at ha' ⊢; omega
          obtain ⟨i1, i2, i3⟩ : 1 ≤ index ∧ index ≤ of ∧ of ≤ 400 := by omega
          clear h1
          go_enter Try.func14, Try.ntmps14
          go_wp2_with (go_at_call 18; refine (ref24_fits _ _).mono ?_; rintro e w' ⟨rfl, rfl⟩)
          all_goals (go_ret2; exact ⟨pair_ret HF.out, (Below.refl _ _).alloc (Nat.le_refl _) _⟩)
    · have hf' : fitsB base = false := by simpa using hf
      have HF : Hid (toDateV base index of al ex t = (0, 2)) := by
        show _ = _
        unfold toDateV
        rw [if_neg h1, if_pos hf']
      clear hf
      obtain ⟨i1, i2, i3⟩ : 1 ≤ index ∧ index ≤ of ∧ of ≤ 400 := by omega
      clear h1
      go_enter Try.func14, Try.ntmps14
      go_wp2_with (go_at_call 18; refine (ref24_fits _ _).mono ?_; rintro e w' ⟨rfl, rfl⟩)
      all_goals (go_ret2; exact ⟨pair_ret HF.out, (Below.refl _ _).alloc (Nat.le_refl _) _⟩)
end Go.Proofs.Ytkpfjabeppdjlaa
