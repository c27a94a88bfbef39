/- Contracts of layer 24: tax.ToDate, Step, Single, Yearly. -/
import Derived.Test.YtkpfjabeppdjlaaTax4
namespace Go.Proofs.Ytkpfjabeppdjlaa
open Go.RowKit

theorem ret_two {k1 k2 : IntKind} {a b c d : Int} (h : a = c) (h' : b = d) : Ending.returned (.tuple #[.int k1 a, .int k2 b]) = .returned (.tuple #[.int k1 c, .int k2 d]) := by rw [h, h']

theorem pair_ret2 {v u : Int × Int} (h : v = u) : Ending.returned (.tuple #[.int .i64 u.1, .int .i64 u.2]) = .returned (.tuple #[.int .i64 v.1, .int .i64 v.2]) := by rw [h]
def scaledE (x d n : Int) (t : List (Int × Int)) : Int × Int := if chkE t ≠ 0 then (0, chkE t) else scaledV (tot x d t t.length) n
theorem band_Scaled (x d n : Int) (A : Option Addr) (cap : Nat) (t : List (Int × Int)) (w : World) (hcap : t.length ≤ 9223372036854775807) (hx0 : 0 ≤ x) (hx : x ≤ 450359962737049600) (hd0 : 1 ≤ d) (hd : d ≤ n) (hn : n ≤ 400)
    (hs : Sl encBand 2 w w.heap.size A t) :
    Calls Try.prog 20 #[.int .i64 x, .int .i64 d, .int .i64 n, .slice A t.length cap] w fun e W' =>
      e = .returned (.tuple #[.int .i64 (scaledE x d n t).1, .int .i64 (scaledE x d n t).2]) ∧ Below w.heap.size w W' :=
  callsIn_wide.1 (band_Scaled_in x d n A cap t w hcap hx0 hx hd0 hd hn hs)

/-- The tax to date, or what is wrong. -/
def toDateV (base index of al ex : Int) (t : List (Int × Int)) : Int × Int :=
  if index < 1 ∨ of < index ∨ 400 < of then (0, 2)
  else if fitsB base = false then (0, 2)
  else if amountB al = false then (0, 2)
  else if amountB ex = false then (0, 2)
  else scaledE (max 0 (base * of - al * index)) index of t

theorem card_bd {base of al index : Int} (hb : fitsB base = true) (ha : amountB al = true) (h1 : 1 ≤ index) (h2 : index ≤ of) (h3 : of ≤ 400) :
    -450359962737049600 ≤ base * of ∧ base * of ≤ 450359962737049600 ∧ 0 ≤ al * index ∧ al * index ≤ 450359962737049600 := by
  unfold fitsB at hb
  unfold amountB at ha
  simp at hb ha
  have e1 : base * of ≤ 1125899906842624 * 400 := by
    have := Int.mul_le_mul_of_nonneg_right hb.2 (show 0 ≤ of by omega)
    omega
  have e2 : -1125899906842624 * 400 ≤ base * of := by
    have := Int.mul_le_mul_of_nonneg_right hb.1 (show 0 ≤ of by omega)
    omega
  have e3 := Int.mul_nonneg ha.1 (show 0 ≤ index by omega)
  have e4 : al * index ≤ 1125899906842624 * 400 := Int.mul_le_mul ha.2 (by omega) (by omega) (by omega)
  omega

abbrev cardV (al ex : Int) (A : Option Addr) (n cap : Nat) : Value := .agg #[.int .i64 al, .int .i64 ex, .slice A n cap]

set_option maxRecDepth 100000 in
set_option maxHeartbeats 1000000 in
theorem tax_ToDate (base index of al ex : Int) (A : Option Addr) (cap : Nat) (t : List (Int × Int)) (w : World) (hcap : t.length ≤ 9223372036854775807) (hs : Sl encBand 2 w w.heap.size A t) :
    Calls Try.prog 12 #[.int .i64 base, .int .i64 index, .int .i64 of, cardV al ex A t.length cap] w fun e W' =>
      e = .returned (.tuple #[.int .i64 (toDateV base index of al ex t).1, .int .i64 (toDateV base index of al ex t).2]) ∧ Below w.heap.size w W' := by
  unfold cardV
  by_cases h1 : index < 1 ∨ of < index ∨ 400 < of
  · have HF : Hid (toDateV base index of al ex t = (0, 2)) := by show _ = _; unfold toDateV; rw [if_pos h1]
    by_cases i1 : index < 1
    · go_enter Try.func12, Try.ntmps12
      go_wp2_with fail
      go_ret2
      exact ⟨pair_ret HF.out, (Below.refl _ _).alloc (Nat.le_refl _) _⟩
    · by_cases i2 : of < index
      · go_enter Try.func12, Try.ntmps12
        go_wp2_with fail
        go_ret2
        exact ⟨pair_ret HF.out, (Below.refl _ _).alloc (Nat.le_refl _) _⟩
      · have i3 : 400 < of := by omega
        go_enter Try.func12, Try.ntmps12
        go_wp2_with fail
        go_ret2
        exact ⟨pair_ret HF.out, (Below.refl _ _).alloc (Nat.le_refl _) _⟩
  · by_cases hf : fitsB base = true
    · by_cases ha : amountB al = true
      · by_cases he : amountB ex = true
        · have hbd := card_bd hf ha (show 1 ≤ index by omega) (show index ≤ of by omega) (show of ≤ 400 by omega)
          have HF : Hid (toDateV base index of al ex t = scaledE (max 0 (base * of - al * index)) index of t) := by
            show _ = _
            unfold toDateV
            rw [if_neg h1, if_neg (by simp [hf]), if_neg (by simp [ha]), if_neg (by simp [he])]
          obtain ⟨b1, b2, b3, b4⟩ := hbd
          generalize hbo : base * of = bo at *
          generalize hai : al * index = ai at *
          have g1 : IntKind.i64.wrap (base * of) = bo := by rw [hbo]; exact IntWalk.i64_in _ (by omega)
          have g2 : IntKind.i64.wrap (al * index) = ai := by rw [hai]; exact IntWalk.i64_in _ (by omega)
          clear hbo hai
          obtain ⟨i1, i2, i3⟩ : 1 ≤ index ∧ index ≤ of ∧ of ≤ 400 := by omega
          clear h1
          go_enter Try.func12, Try.ntmps12
          go_wp2_with (first | (go_at_call 19; refine (tax_amount _ _).mono ?_; rintro e w' ⟨rfl, rfl⟩) | (go_at_call 17; refine (tax_fits _ _).mono ?_; rintro e w' ⟨rfl, rfl⟩))
          all_goals
            refine (band_Scaled _ index of A cap t _ hcap (by omega) (by omega) i1 i2 i3 ((hs.below ((Below.refl _ w).alloc (Nat.le_refl _) _)).more (by simp))).mono ?_
            rintro e w' ⟨rfl, hb⟩
            go_wp2_with fail
            go_ret2
            exact ⟨pair_ret2 (by rw [HF.out]; exact congrArg (fun z => scaledE z index of t) (by omega)), ((Below.refl _ w).alloc (Nat.le_refl _) _).trans (hb.mono (by simp))⟩
        · have he' : amountB ex = false := by simpa using he
          have HF : Hid (toDateV base index of al ex t = (0, 2)) := by
            show _ = _
            unfold toDateV
            rw [if_neg h1, if_neg (by simp [hf]), if_neg (by simp [ha]), if_pos he']
          clear he
          obtain ⟨i1, i2, i3⟩ : 1 ≤ index ∧ index ≤ of ∧ of ≤ 400 := by omega
          clear h1
          go_enter Try.func12, Try.ntmps12
          go_wp2_with (first | (go_at_call 19; refine (tax_amount _ _).mono ?_; rintro e w' ⟨rfl, rfl⟩) | (go_at_call 17; refine (tax_fits _ _).mono ?_; rintro e w' ⟨rfl, rfl⟩))
          go_ret2
          exact ⟨pair_ret HF.out, (Below.refl _ _).alloc (Nat.le_refl _) _⟩
      · have ha' : amountB al = false := by simpa using ha
        have HF : Hid (toDateV base index of al ex t = (0, 2)) := by
          show _ = _
          unfold toDateV
          rw [if_neg h1, if_neg (by simp [hf]), if_pos ha']
        clear ha
        obtain ⟨i1, i2, i3⟩ : 1 ≤ index ∧ index ≤ of ∧ of ≤ 400 := by omega
        clear h1
        go_enter Try.func12, Try.ntmps12
        go_wp2_with (first | (go_at_call 19; refine (tax_amount _ _).mono ?_; rintro e w' ⟨rfl, rfl⟩) | (go_at_call 17; refine (tax_fits _ _).mono ?_; rintro e w' ⟨rfl, rfl⟩))
        go_ret2
        exact ⟨pair_ret HF.out, (Below.refl _ _).alloc (Nat.le_refl _) _⟩
    · have hf' : fitsB base = false := by simpa using hf
      have HF : Hid (toDateV base index of al ex t = (0, 2)) := by
        show _ = _
        unfold toDateV
        rw [if_neg h1, if_pos hf']
      clear hf
      obtain ⟨i1, i2, i3⟩ : 1 ≤ index ∧ index ≤ of ∧ of ≤ 400 := by omega
      clear h1
      go_enter Try.func12, Try.ntmps12
      go_wp2_with (first | (go_at_call 19; refine (tax_amount _ _).mono ?_; rintro e w' ⟨rfl, rfl⟩) | (go_at_call 17; refine (tax_fits _ _).mono ?_; rintro e w' ⟨rfl, rfl⟩))
      go_ret2
      exact ⟨pair_ret HF.out, (Below.refl _ _).alloc (Nat.le_refl _) _⟩
end Go.Proofs.Ytkpfjabeppdjlaa
