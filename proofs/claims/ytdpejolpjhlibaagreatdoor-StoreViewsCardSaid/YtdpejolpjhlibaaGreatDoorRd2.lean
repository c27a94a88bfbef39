/- The reference's reading of a rate: its numbers, and its count of digits. -/
import Derived.Test.YtdpejolpjhlibaaGreatDoorRr2
namespace Go.Proofs.YtdpejolpjhlibaaGreatDoor
open Go.RowKit Go.Sort

theorem numL_nil' (n : Nat) : numL n [] = n := rfl
theorem numL_cons' (n : Nat) (b : UInt8) (l : List UInt8) : numL n (b :: l) = numL (10 * n + (b.toNat - 48)) l := numL_append n [b] l
/-- The number of digits read, or one that is too great just as it is. -/
def SatV (a : List UInt8) (n : Nat) : Prop := (n = numL 0 a ∧ n < 1000000) ∨ (1000000 ≤ n ∧ n < 10000000 ∧ 1000000 ≤ numL 0 a)
theorem satV_nil : SatV [] 0 := .inl ⟨rfl, by omega⟩
theorem satV_low {a : List UInt8} {k n : Nat} {b : UInt8} (hb : a[k]? = some b) (hd : digC b = true) (h : SatV (a.take k) n) (hn : n < 1000000) : SatV (a.take (k + 1)) (10 * n + (b.toNat - 48)) ∧ 48 ≤ b.toNat ∧ b.toNat ≤ 57 := by
  have hd2 : 48 ≤ b.toNat ∧ b.toNat ≤ 57 := by unfold digC at hd; simpa using hd
  refine ⟨?_, hd2⟩
  rcases h with ⟨h1, h2⟩ | ⟨h1, _⟩
  · unfold SatV
    rw [numL_more hb, ← h1]
    omega
  · omega
theorem satV_high {a : List UInt8} {k n : Nat} {b : UInt8} (hb : a[k]? = some b) (h : SatV (a.take k) n) (hn : ¬ n < 1000000) : SatV (a.take (k + 1)) n := by
  rcases h with ⟨h1, h2⟩ | ⟨h1, h2, h3⟩
  · omega
  · exact .inr ⟨h1, h2, by rw [numL_more hb]; omega⟩
theorem satV_lt {a : List UInt8} {n : Nat} (h : SatV a n) : n < 10000000 := by
  rcases h with ⟨_, h⟩ | ⟨_, h, _⟩ <;> omega
/-- The tens of the places behind the point. -/
def p10 (j : Nat) : Nat := if j = 0 then 10000 else if j = 1 then 1000 else if j = 2 then 100 else if j = 3 then 10 else if j = 4 then 1 else 0
theorem p10_step {j : Nat} (h : j < 4) : p10 j = 10 * p10 (j + 1) := by
  have : j = 0 ∨ j = 1 ∨ j = 2 ∨ j = 3 := by omega
  rcases this with rfl | rfl | rfl | rfl <;> simp [p10]
theorem p10_div {j : Nat} (h : j < 4) : p10 (j + 1) / 10 = p10 (j + 2) := by
  have : j = 0 ∨ j = 1 ∨ j = 2 ∨ j = 3 := by omega
  rcases this with rfl | rfl | rfl | rfl <;> simp [p10]
theorem p10_le (j : Nat) : p10 j ≤ 10000 := by
  unfold p10
  split
  · omega
  split
  · omega
  split
  · omega
  split
  · omega
  split <;> omega
/-- What lies behind the point, at j places. -/
def fracV (f : List UInt8) (j : Nat) : Nat := numL 0 (f.take j) * p10 j
theorem fracV_zero (f : List UInt8) : fracV f 0 = 0 := by unfold fracV; rw [List.take_zero, numL_nil', Nat.zero_mul]
theorem fracV_step {f : List UInt8} {j : Nat} {b : UInt8} (hb : f[j]? = some b) (hj : j < 4) : fracV f (j + 1) = fracV f j + p10 (j + 1) * (b.toNat - 48) := by
  unfold fracV
  rw [numL_more hb, p10_step hj, Nat.add_mul, Nat.mul_comm 10 (numL 0 (f.take j)), Nat.mul_assoc]
  congr 1
  exact Nat.mul_comm _ _
theorem fracV_lt {f : List UInt8} {j : Nat} (hd : f.all digC = true) (hj : j ≤ 4) : fracV f j < 10000 := by
  unfold fracV
  have h1 := numL_lt (f.take j) 0 (by
    rw [List.all_eq_true] at hd ⊢
    exact fun x hx => hd x (List.mem_of_mem_take hx))
  rw [Nat.zero_add, Nat.one_mul] at h1
  have h2 : (f.take j).length ≤ j := List.length_take_le _ _
  have h3 : numL 0 (f.take j) < 10 ^ j := Nat.lt_of_lt_of_le h1 (Nat.pow_le_pow_right (by omega) h2)
  have : j = 0 ∨ j = 1 ∨ j = 2 ∨ j = 3 ∨ j = 4 := by omega
  rcases this with rfl | rfl | rfl | rfl | rfl <;> simp [p10] at h3 ⊢ <;> omega
theorem fracV_all {f : List UInt8} (h : f.length ≤ 4) : fracV f f.length = numL 0 ((f ++ [48, 48, 48, 48]).take 4) := by
  have h48 : (48 : UInt8).toNat - 48 = 0 := rfl
  have q1 : p10 1 = 1000 := by simp [p10]
  have q2 : p10 2 = 100 := by simp [p10]
  have q3 : p10 3 = 10 := by simp [p10]
  have q4 : p10 4 = 1 := by simp [p10]
  unfold fracV
  rw [List.take_length]
  match f, h with
  | [], _ =>
    show numL 0 [] * p10 0 = numL 0 [48, 48, 48, 48]
    rw [numL_nil', numL_cons', numL_cons', numL_cons', numL_cons', numL_nil', h48]; omega
  | [a], _ =>
    show numL 0 [a] * p10 1 = numL 0 [a, 48, 48, 48]
    rw [q1, numL_cons', numL_nil', numL_cons', numL_cons', numL_cons', numL_cons', numL_nil', h48]; omega
  | [a, b], _ =>
    show numL 0 [a, b] * p10 2 = numL 0 [a, b, 48, 48]
    rw [q2, numL_cons', numL_cons', numL_nil', numL_cons', numL_cons', numL_cons', numL_cons', numL_nil', h48]; omega
  | [a, b, c], _ =>
    show numL 0 [a, b, c] * p10 3 = numL 0 [a, b, c, 48]
    rw [q3, numL_cons', numL_cons', numL_cons', numL_nil', numL_cons', numL_cons', numL_cons', numL_cons', numL_nil', h48]; omega
  | [a, b, c, d], _ =>
    show numL 0 [a, b, c, d] * p10 4 = numL 0 [a, b, c, d]
    rw [q4, Nat.mul_one]
/-- The rate's number against the document's limit. -/
theorem sat_rate {a f : List UInt8} {n F : Nat} (h : SatV a n) (hF : F < 10000) (hf : F = numL 0 ((f ++ [48, 48, 48, 48]).take 4)) : (1000000000 < n * 10000 + F ↔ 1000000000 < rateN a f) ∧ (¬ 1000000000 < rateN a f → n * 10000 + F = rateN a f) := by
  unfold rateN
  rw [← hf]
  rcases h with ⟨h1, h2⟩ | ⟨h1, h2, h3⟩
  · rw [h1]; omega
  · omega
theorem part_pos {f : List UInt8} (h : partB f = true) : 0 < numL 0 ((f ++ [48, 48, 48, 48]).take 4) := by
  unfold partB digsB at h
  simp only [Bool.and_eq_true, Bool.not_eq_true', decide_eq_true_eq] at h
  obtain ⟨⟨⟨hd, hne⟩, hl⟩, h0⟩ := h
  rw [← fracV_all hl]
  unfold fracV
  rw [List.take_length]
  obtain ⟨I, z, rfl⟩ : ∃ I z, f = I ++ [z] := by
    rcases List.eq_nil_or_concat f with h | ⟨I, z, h⟩
    · rw [h] at hne; simp at hne
    · exact ⟨I, z, by rw [h, List.concat_eq_append]⟩
  have hz : digC z = true := List.all_eq_true.1 hd z (by simp)
  have hz2 : 48 ≤ z.toNat ∧ z.toNat ≤ 57 := by unfold digC at hz; simpa using hz
  have hz3 : z.toNat ≠ 48 := fun h => by
    have : z = 48 := UInt8.toNat_inj.1 h
    rw [this] at h0; simp at h0
  have h1 : 0 < numL 0 (I ++ [z]) := by
    rw [numL_append]
    have h5 : numL (numL 0 I) [z] = 10 * numL 0 I + (z.toNat - 48) := rfl
    rw [h5]; omega
  have h2 : 0 < p10 (I ++ [z]).length := by
    have h3 : (I ++ [z]).length = 1 ∨ (I ++ [z]).length = 2 ∨ (I ++ [z]).length = 3 ∨ (I ++ [z]).length = 4 := by
      rw [List.length_append, List.length_singleton] at hl ⊢
      omega
    rcases h3 with h | h | h | h <;> rw [h] <;> simp [p10]
  exact Nat.mul_pos h1 h2
theorem zero_whole {a : List UInt8} (hw : wholeB a = true) : numL 0 a = 0 ↔ a = [48] := by
  unfold wholeB neat at hw
  simp only [Bool.and_eq_true, Bool.not_eq_true', Bool.or_eq_true, decide_eq_true_eq] at hw
  obtain ⟨hd, hne, hl⟩ := hw
  match a with
  | [] => simp at hne
  | [x] =>
    have hx : digC x = true := List.all_eq_true.1 hd x (by simp)
    have hx2 : 48 ≤ x.toNat ∧ x.toNat ≤ 57 := by unfold digC at hx; simpa using hx
    rw [numL_cons', numL_nil']
    refine ⟨fun h => ?_, fun h => ?_⟩
    · have : x = 48 := UInt8.toNat_inj.1 (by show x.toNat = 48; omega)
      rw [this]
    · injection h with h _; subst h; rfl
  | x :: y :: z =>
    have hx : digC x = true := List.all_eq_true.1 hd x (by simp)
    have hx2 : 48 ≤ x.toNat ∧ x.toNat ≤ 57 := by unfold digC at hx; simpa using hx
    have hx3 : x.toNat ≠ 48 := fun h => by
      have : x = 48 := UInt8.toNat_inj.1 h
      rcases hl with hl | hl
      · simp at hl
      · rw [this] at hl; simp at hl
    refine ⟨fun h => ?_, fun h => by simp at h⟩
    exfalso
    have h1 : numL 0 (x :: y :: z) = numL (10 * 0 + (x.toNat - 48)) (y :: z) := rfl
    have h2 := numL_ge (y :: z) (10 * 0 + (x.toNat - 48))
    omega
/-- How many digits a text has from some place on. -/
theorem tw_take {l : List UInt8} {n : Nat} (h : (l.take n).all digC = true) (hn : n ≤ l.length) (he : ∀ b, l[n]? = some b → digC b = false) : (l.takeWhile digC).length = n := by
  cases hd : l.drop n with
  | nil =>
    have hl : l.length ≤ n := by
      have := congrArg List.length hd
      simp at this; omega
    rw [List.take_of_length_le hl] at h
    have : l.takeWhile digC = l := by
      have h2 := List.all_eq_true.1 h
      clear h hd hl he hn
      induction l with
      | nil => rfl
      | cons x l ih => rw [List.takeWhile_cons, if_pos (h2 x (by simp)), ih (fun y hy => h2 y (List.mem_cons_of_mem _ hy))]
    rw [this]; omega
  | cons b r =>
    have hb : l[n]? = some b := by
      have := congrArg List.head? hd
      rw [List.head?_drop] at this
      simpa using this
    have e : l = l.take n ++ b :: r := by rw [← hd, List.take_append_drop]
    rw [e, tw_stop h (he b hb), List.length_take]; omega
set_option maxHeartbeats 2000000 in
theorem r2_digits (s : ByteArray) (at' : Nat) (w : World) (hs : s.size ≤ 1000000) (ha : at' ≤ 1000001) : Calls Tryz.prog 130 #[.string s, .int .i64 at'] w fun e w' => e = .returned (.int .i64 (((ls s).drop at').takeWhile digC).length) ∧ w = w' := by
  go_enter Tryz.func130, Tryz.ntmps130
  go_wp2
  go_loop [5] (fun iv => ∃ n : Nat, n ≤ ((ls s).drop at').length ∧ iv = .int .i64 n ∧ Hid ((((ls s).drop at').take n).all digC = true)) (fun iv => s.size - (intOf iv).toNat)
  case atStart => exact ⟨0, Nat.zero_le _, rfl, Lib.hid rfl⟩
  case round =>
    obtain ⟨n, hn, rfl, HD⟩ := hrel
    have hlen : ((ls s).drop at').length = s.size - at' := by rw [List.length_drop, ls_len]
    by_cases hlt : at' + n < s.size
    · obtain ⟨b, hb, hbb⟩ := byte_some hlt
      have hra := run_at (P := Tryz.prog) 9 Tryz.underlying9 s (at' + n) hlt
      rw [hbb, Int.natCast_add] at hra
      have hb2 : ((ls s).drop at')[n]? = some b := by rw [List.getElem?_drop]; exact hb
      have HB := Lib.hid hb2
      have w1 : IntKind.i64.wrap ((at' : Int) + n) = (at' : Int) + n := IntWalk.i64_in _ (by omega)
      have hl2 : decide ((at' : Int) + n < s.size) = true := decide_eq_true (by omega)
      clear hb hbb hb2
      by_cases h48 : 48 ≤ b.toNat
      · have d1 : decide ((48 : Int) ≤ (b.toNat : Int)) = true := decide_eq_true (by omega)
        by_cases h57 : b.toNat ≤ 57
        · have d2 : decide ((b.toNat : Int) ≤ 57) = true := decide_eq_true (by omega)
          have HN : Hid ((((ls s).drop at').take (n + 1)).all digC = true) := Lib.hid (all_more HD.out HB.out (by unfold digC; exact decide_eq_true ⟨h48, h57⟩))
          clear hlen
          go_wp2
          go_round
          case rel => exact ⟨n + 1, by rw [List.length_drop, ls_len]; omega, by go_num, HN⟩
          case measure => simp [intOf]; omega
        · have d2 : decide ((b.toNat : Int) ≤ 57) = false := decide_eq_false (by omega)
          have HF : Hid ((((ls s).drop at').takeWhile digC).length = n) := Lib.hid (tw_take HD.out hn (fun c hc => by
            rw [HB.out] at hc; cases hc
            unfold digC; exact decide_eq_false (fun h => h57 h.2)))
          clear hlen hn
          go_wp2
          go_ret
          exact ⟨by rw [HF.out]; rfl, rfl⟩
      · have d1 : decide ((48 : Int) ≤ (b.toNat : Int)) = false := decide_eq_false (by omega)
        have HF : Hid ((((ls s).drop at').takeWhile digC).length = n) := Lib.hid (tw_take HD.out hn (fun c hc => by
          rw [HB.out] at hc; cases hc
          unfold digC; exact decide_eq_false (fun h => h48 h.1)))
        clear hlen hn
        go_wp2
        go_ret
        exact ⟨by rw [HF.out]; rfl, rfl⟩
    · have HF : Hid ((((ls s).drop at').takeWhile digC).length = n) := Lib.hid (tw_take HD.out hn (fun c hc => by
        have := (List.getElem?_eq_some_iff.1 hc).1
        omega))
      have w1 : IntKind.i64.wrap ((at' : Int) + n) = (at' : Int) + n := IntWalk.i64_in _ (by omega)
      have hl2 : decide ((at' : Int) + n < s.size) = false := decide_eq_false (by omega)
      clear hlen hn
      go_wp2
      go_ret
      exact ⟨by rw [HF.out]; rfl, rfl⟩
end Go.Proofs.YtdpejolpjhlibaaGreatDoor
