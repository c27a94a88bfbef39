/- Contracts of layer 24: both Singles and Steps, and Yearly. -/
import Derived.Test.YtkpfjabeppdjlaaTax7
namespace Go.Proofs.Ytkpfjabeppdjlaa
open Go.RowKit

/-- What a period alone has withheld. -/
def singleV (base of al ex : Int) (t : List (Int × Int)) : Int × Int :=
  if (toDateV base 1 of al ex t).2 ≠ 0 then (0, (toDateV base 1 of al ex t).2)
  else if fitsB ((toDateV base 1 of al ex t).1 + ex) = false then (0, 9)
  else ((toDateV base 1 of al ex t).1 + ex, 0)

set_option maxRecDepth 100000 in
set_option maxHeartbeats 1000000 in
theorem tax_Single (base of al ex : Int) (A : Option Addr) (cap : Nat) (t : List (Int × Int)) (w : World) (hcap : t.length ≤ 9223372036854775807) (hs : Sl encBand 2 w w.heap.size A t) :
    Calls Try.prog 13 #[.int .i64 base, .int .i64 of, cardV al ex A t.length cap] w fun e W' =>
      e = .returned (.tuple #[.int .i64 (singleV base of al ex t).1, .int .i64 (singleV base of al ex t).2]) ∧ Below w.heap.size w W' := by
  have HSB := Lib.hid ((hs.below ((Below.refl _ w).alloc (Nat.le_refl _) (.cells #[.int .i64 al, .int .i64 ex, .slice A t.length cap] 28))).more (B' := (w.alloc (.cells #[.int .i64 al, .int .i64 ex, .slice A t.length cap] 28)).heap.size) (by simp))
  have HC := Lib.hid (fun W => tax_ToDate base 1 of al ex A cap t W hcap)
  have hbd := toDateV_bd (base := base) (index := 1) (of := of) (al := al) (ex := ex) (t := t)
  have hex : (toDateV base 1 of al ex t).2 = 0 → 0 ≤ ex ∧ ex ≤ 1125899906842624 := fun h => by
    have := (toDateV_ok h).2.2.2.1
    unfold amountB at this
    simpa using this
  have HS : Hid (singleV base of al ex t = if (toDateV base 1 of al ex t).2 ≠ 0 then (0, (toDateV base 1 of al ex t).2) else if fitsB ((toDateV base 1 of al ex t).1 + ex) = false then (0, 9) else ((toDateV base 1 of al ex t).1 + ex, 0)) := rfl
  generalize toDateV base 1 of al ex t = u at *
  clear hs hcap
  obtain ⟨u, e⟩ := u
  dsimp only at hbd hex HS HC
  have bel : ∀ w1, Below (w.alloc (.cells #[.int .i64 al, .int .i64 ex, .slice A t.length cap] 28)).heap.size (w.alloc (.cells #[.int .i64 al, .int .i64 ex, .slice A t.length cap] 28)) w1 → Below w.heap.size w w1 := fun w1 h => ((Below.refl _ w).alloc (Nat.le_refl _) _).trans (h.mono (by simp))
  have BEL := Lib.hid bel
  clear bel
  by_cases he : e = 0
  · obtain ⟨x0, x1⟩ := hex he
    have he1 : (e != 0) = false := by simp [he]
    have HE := Lib.hid he
    clear he hex
    by_cases hf : fitsB (u + ex) = true
    · go_enter Try.func13, Try.ntmps13
      go_wp2_with (first | (go_at_call 17; refine (tax_fits _ _).mono ?_; rintro e w' ⟨rfl, rfl⟩) | (go_at_call 12; refine (HC.out _ HSB.out).mono ?_; rintro e w1 ⟨rfl, hb1⟩; obtain ⟨hc1, hf1⟩ := bcell hb1))
      go_ret2
      exact ⟨pair_ret (by rw [HS.out, if_neg (by simp [HE.out]), if_neg (by simp [hf])]), BEL.out _ hb1⟩
    · have hf' : fitsB (u + ex) = false := by simpa using hf
      clear hf
      go_enter Try.func13, Try.ntmps13
      go_wp2_with (first | (go_at_call 17; refine (tax_fits _ _).mono ?_; rintro e w' ⟨rfl, rfl⟩) | (go_at_call 12; refine (HC.out _ HSB.out).mono ?_; rintro e w1 ⟨rfl, hb1⟩; obtain ⟨hc1, hf1⟩ := bcell hb1))
      go_ret2
      exact ⟨pair_ret (by rw [HS.out, if_neg (by simp [HE.out]), if_pos hf']), BEL.out _ hb1⟩
  · have he1 : (e != 0) = true := by simp [he]
    have HE := Lib.hid he
    clear he hex
    go_enter Try.func13, Try.ntmps13
    go_wp2_with (first | (go_at_call 17; refine (tax_fits _ _).mono ?_; rintro e w' ⟨rfl, rfl⟩) | (go_at_call 12; refine (HC.out _ HSB.out).mono ?_; rintro e w1 ⟨rfl, hb1⟩; obtain ⟨hc1, hf1⟩ := bcell hb1))
    go_ret2
    exact ⟨pair_ret (by rw [HS.out, if_pos HE.out]), BEL.out _ hb1⟩

set_option maxRecDepth 100000 in
set_option maxHeartbeats 1000000 in
theorem ref24_Single (base of al ex : Int) (A : Option Addr) (cap : Nat) (t : List (Int × Int)) (w : World) (hcap : t.length ≤ 9223372036854775807) (hs : Sl encBand 2 w w.heap.size A t) :
    Calls Try.prog 16 #[.int .i64 base, .int .i64 of, cardV al ex A t.length cap] w fun e W' =>
      e = .returned (.tuple #[.int .i64 (singleV base of al ex t).1, .int .i64 (singleV base of al ex t).2]) ∧ Below w.heap.size w W' := by
  have HSB := Lib.hid ((hs.below ((Below.refl _ w).alloc (Nat.le_refl _) (.cells #[.int .i64 al, .int .i64 ex, .slice A t.length cap] 28))).more (B' := (w.alloc (.cells #[.int .i64 al, .int .i64 ex, .slice A t.length cap] 28)).heap.size) (by simp))
  have HC := Lib.hid (fun W => ref24_ToDate base 1 of al ex A cap t W hcap)
  have hbd := toDateV_bd (base := base) (index := 1) (of := of) (al := al) (ex := ex) (t := t)
  have hex : (toDateV base 1 of al ex t).2 = 0 → 0 ≤ ex ∧ ex ≤ 1125899906842624 := fun h => by
    have := (toDateV_ok h).2.2.2.1
    unfold amountB at this
    simpa using this
  have HS : Hid (singleV base of al ex t = if (toDateV base 1 of al ex t).2 ≠ 0 then (0, (toDateV base 1 of al ex t).2) else if fitsB ((toDateV base 1 of al ex t).1 + ex) = false then (0, 9) else ((toDateV base 1 of al ex t).1 + ex, 0)) := rfl
  generalize toDateV base 1 of al ex t = u at *
  clear hs hcap
  obtain ⟨u, e⟩ := u
  dsimp only at hbd hex HS HC
  have bel : ∀ w1, Below (w.alloc (.cells #[.int .i64 al, .int .i64 ex, .slice A t.length cap] 28)).heap.size (w.alloc (.cells #[.int .i64 al, .int .i64 ex, .slice A t.length cap] 28)) w1 → Below w.heap.size w w1 := fun w1 h => ((Below.refl _ w).alloc (Nat.le_refl _) _).trans (h.mono (by simp))
  have BEL := Lib.hid bel
  clear bel
  by_cases he : e = 0
  · obtain ⟨x0, x1⟩ := hex he
    have he1 : (e != 0) = false := by simp [he]
    have HE := Lib.hid he
    clear he hex
    by_cases hf : fitsB (u + ex) = true
    · go_enter Try.func16, Try.ntmps16
      go_wp2_with (first | (go_at_call 18; refine (ref24_fits _ _).mono ?_; rintro e w' ⟨rfl, rfl⟩) | (go_at_call 14; refine (HC.out _ HSB.out).mono ?_; rintro e w1 ⟨rfl, hb1⟩; obtain ⟨hc1, hf1⟩ := bcell hb1))
      go_ret2
      exact ⟨pair_ret (by rw [HS.out, if_neg (by simp [HE.out]), if_neg (by simp [hf])]), BEL.out _ hb1⟩
    · have hf' : fitsB (u + ex) = false := by simpa using hf
      clear hf
      go_enter Try.func16, Try.ntmps16
      go_wp2_with (first | (go_at_call 18; refine (ref24_fits _ _).mono ?_; rintro e w' ⟨rfl, rfl⟩) | (go_at_call 14; refine (HC.out _ HSB.out).mono ?_; rintro e w1 ⟨rfl, hb1⟩; obtain ⟨hc1, hf1⟩ := bcell hb1))
      go_ret2
      exact ⟨pair_ret (by rw [HS.out, if_neg (by simp [HE.out]), if_pos hf']), BEL.out _ hb1⟩
  · have he1 : (e != 0) = true := by simp [he]
    have HE := Lib.hid he
    clear he hex
    go_enter Try.func16, Try.ntmps16
    go_wp2_with (first | (go_at_call 18; refine (ref24_fits _ _).mono ?_; rintro e w' ⟨rfl, rfl⟩) | (go_at_call 14; refine (HC.out _ HSB.out).mono ?_; rintro e w1 ⟨rfl, hb1⟩; obtain ⟨hc1, hf1⟩ := bcell hb1))
    go_ret2
    exact ⟨pair_ret (by rw [HS.out, if_pos HE.out]), BEL.out _ hb1⟩

set_option maxRecDepth 100000 in
set_option maxHeartbeats 1000000 in
theorem tax_Yearly (base al ex : Int) (A : Option Addr) (cap : Nat) (t : List (Int × Int)) (w : World) (hcap : t.length ≤ 9223372036854775807) (hs : Sl encBand 2 w w.heap.size A t) :
    Calls Try.prog 15 #[.int .i64 base, cardV al ex A t.length cap] w fun e W' =>
      e = .returned (.tuple #[.int .i64 (toDateV base 1 1 al ex t).1, .int .i64 (toDateV base 1 1 al ex t).2]) ∧ Below w.heap.size w W' := by
  have HSB := Lib.hid ((hs.below ((Below.refl _ w).alloc (Nat.le_refl _) (.cells #[.int .i64 al, .int .i64 ex, .slice A t.length cap] 28))).more (B' := (w.alloc (.cells #[.int .i64 al, .int .i64 ex, .slice A t.length cap] 28)).heap.size) (by simp))
  have HC := Lib.hid (fun W => tax_ToDate base 1 1 al ex A cap t W hcap)
  generalize toDateV base 1 1 al ex t = u at *
  clear hs hcap
  go_enter Try.func15, Try.ntmps15
  go_wp2_with (go_at_call 12; refine (HC.out _ HSB.out).mono ?_; rintro e w1 ⟨rfl, hb1⟩)
  go_ret2
  exact ⟨rfl, ((Below.refl _ w).alloc (Nat.le_refl _) _).trans (hb1.mono (by simp))⟩
end Go.Proofs.Ytkpfjabeppdjlaa
