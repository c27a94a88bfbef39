/- Out of: Rate. -/
import Derived.Test.YtheaacliomfkoaaGreatDoorZfb
import Derived.BigQuiet
import Derived.Deep.Cut
import Derived.Deep.CutRange
import Derived.Laws.Concat
import Derived.Lib.IndexBytes
import Derived.Lib.Strings
/- Merged from: Rat1 Cen1 Cen2 Rat2 Cut2 Rat3. -/
/- Rates: digits, values, and the laws of a rate's text. -/
namespace Go.Proofs.YtheaacliomfkoaaGreatDoor
open Go.RowKit

/-- Digits alone, one at least. -/
def digsB (l : List UInt8) : Bool := l.all digC && !(l == [])
/-- A number of digits, at most so much, else one more. -/
def satN (l : List UInt8) (most : Nat) : Nat := min (numL 0 l) (most + 1)
theorem satN_more {l : List UInt8} {k most n : Nat} {b : UInt8} {c : Int} (hb : l[k]? = some b) (hc : c = (b.toNat : Int)) (h : n = satN (l.take k) most) : satN (l.take (k + 1)) most = min (10 * n + (c.toNat - 48)) (most + 1) := by
  unfold satN at *
  rw [numL_more hb]
  omega
theorem satN_nil (most : Nat) : satN [] most = 0 := Nat.min_eq_left (Nat.zero_le _)
set_option maxHeartbeats 1000000 in
theorem rt_digits (s : ByteArray) (w : World) (hs : s.size ≤ 1000000) : Calls Tryz.prog 202 #[.string s] w fun e w' => e = .returned (.bool (digsB (ls s))) ∧ w = w' := by
  go_enter Tryz.func202, Tryz.ntmps202
  go_wp2
  go_loop [3, 6] (fun _ iv => ∃ k : Nat, k ≤ s.size ∧ iv = .int .i64 k ∧ Hid (((ls s).take k).all digC = true)) (fun _ iv => s.size - (intOf iv).toNat)
  case atStart => exact ⟨0, Nat.zero_le _, rfl, Lib.hid rfl⟩
  case round =>
    obtain ⟨k, hk, rfl, HP⟩ := hrel
    by_cases hlt : k < s.size
    · have hix := run_at (P := Tryz.prog) 9 Tryz.underlying9 s k hlt
      have hbd := byteAt_bd s k
      obtain ⟨b, hb, hcb⟩ := byte_some hlt
      have HB := Lib.hid hb
      have HC := Lib.hid hcb
      clear hb hcb
      generalize byteAt s k = c at *
      by_cases h1 : c < 48
      · have HF : Hid (digsB (ls s) = false) := Lib.hid (by unfold digsB; rw [all_bad HB.out (by have := HC.out; unfold digC; simp; omega)]; rfl)
        go_wp2
        go_ret
        exact ⟨ret_b HF.out.symm, rfl⟩
      · by_cases h2 : 57 < c
        · have HF : Hid (digsB (ls s) = false) := Lib.hid (by unfold digsB; rw [all_bad HB.out (by have := HC.out; unfold digC; simp; omega)]; rfl)
          go_wp2
          go_ret
          exact ⟨ret_b HF.out.symm, rfl⟩
        · have HN : Hid (((ls s).take (k + 1)).all digC = true) := Lib.hid (all_more HP.out HB.out (by have := HC.out; unfold digC; simp; omega))
          go_wp2
          go_round
          case rel => exact ⟨k + 1, by omega, by go_num, HN⟩
          case measure => simp [intOf]; omega
    · obtain rfl : k = s.size := by omega
      have HF : Hid ((ls s).all digC = true) := Lib.hid (by have := HP.out; rwa [List.take_of_length_le (by rw [ls_len]; omega)] at this)
      go_wp2
      go_ret
      exact ⟨ret_b (by unfold digsB; rw [HF.out, isEmpty_ls]; rfl), rfl⟩

set_option maxHeartbeats 1000000 in
theorem rt_value (s : ByteArray) (most : Nat) (w : World) (hs : s.size ≤ 1000000) (hm : most ≤ 1000000) (hd : (ls s).all digC = true) : Calls Tryz.prog 203 #[.string s, .int .i64 most] w fun e w' => e = .returned (.int .i64 (satN (ls s) most)) ∧ w = w' := by
  have HD := Lib.hid hd
  clear hd
  go_enter Tryz.func203, Tryz.ntmps203
  go_wp2
  go_loop [5, 6, 9] (fun nv _ iv => ∃ k n : Nat, k ≤ s.size ∧ iv = .int .i64 k ∧ nv = .int .i64 n ∧ n ≤ most + 1 ∧ Hid (n = satN ((ls s).take k) most)) (fun _ _ iv => s.size - (intOf iv).toNat)
  case atStart => exact ⟨0, 0, Nat.zero_le _, rfl, rfl, by omega, Lib.hid (satN_nil most).symm⟩
  case round =>
    obtain ⟨k, n, hk, rfl, rfl, hn, HN⟩ := hrel
    by_cases hlt : k < s.size
    · have hix := run_at (P := Tryz.prog) 9 Tryz.underlying9 s k hlt
      have hbd := byteAt_bd s k
      obtain ⟨b, hb, hcb⟩ := byte_some hlt
      have HB := Lib.hid hb
      have HC := Lib.hid hcb
      have hdg := digC_iff.1 (List.all_eq_true.1 HD.out b (List.mem_of_getElem? hb))
      clear hb
      have hc1 : 48 ≤ byteAt s k := by omega
      have hc2 : byteAt s k ≤ 57 := by omega
      clear hcb hdg
      generalize byteAt s k = c at *
      have HN2 := Lib.hid (satN_more HB.out HC.out HN.out)
      by_cases hle : (n : Int) * 10 + (c - 48) ≤ (most : Int) + 1
      · go_wp2
        go_round
        case rel => exact ⟨k + 1, 10 * n + (c.toNat - 48), by omega, by go_num, by go_num, by omega, Lib.hid (by rw [HN2.out]; omega)⟩
        case measure => simp [intOf]; omega
      · go_wp2
        go_round
        case rel => exact ⟨k + 1, most + 1, by omega, by go_num, by go_num, by omega, Lib.hid (by rw [HN2.out]; omega)⟩
        case measure => simp [intOf]; omega
    · obtain rfl : k = s.size := by omega
      have HF : Hid (n = satN (ls s) most) := Lib.hid (by have := HN.out; rwa [List.take_of_length_le (by rw [ls_len]; omega)] at this)
      go_wp2
      go_ret
      exact ⟨by rw [← HF.out]; rfl, rfl⟩

theorem pre_one (c : UInt8) (l : List UInt8) : Lib.hasPrefix l [c] = (l.head? == some c) := by
  unfold Lib.hasPrefix
  cases l with
  | nil => rfl
  | cons b l =>
    by_cases h : b = c
    · subst h; simp [List.isPrefixOf]
    · have e1 : (c == b) = false := beq_eq_false_iff_ne.2 (fun e => h e.symm)
      have e2 : (some b == some c) = false := by simpa using h
      simp [List.isPrefixOf, e1]
      exact h
theorem trimPre_one (c : UInt8) (l : List UInt8) : Lib.trimPrefix l [c] = if (l.head? == some c) = true then l.drop 1 else l := by
  unfold Lib.trimPrefix
  rw [pre_one]; rfl
theorem suf_one (c : UInt8) (l : List UInt8) : Lib.hasSuffix l [c] = (l.getLast? == some c) := by
  unfold Lib.hasSuffix
  rcases List.eq_nil_or_concat l with rfl | ⟨r, b, rfl⟩
  · rfl
  · simp only [List.concat_eq_append, List.getLast?_append]
    by_cases h : b = c
    · subst h
      simp
    · have e : ([c] : List UInt8).isSuffixOf (r ++ [b]) = false := by
        rw [← Bool.not_eq_true, List.isSuffixOf_iff_suffix]
        rintro ⟨t, ht⟩
        have := congrArg List.getLast? ht
        simp at this
        exact h this.symm
      rw [e]; simp [h]
theorem trimSuf_one (c : UInt8) (l : List UInt8) : Lib.trimSuffix l [c] = if (l.getLast? == some c) = true then l.dropLast else l := by
  unfold Lib.trimSuffix
  rw [suf_one, List.dropLast_eq_take]; rfl
end Go.Proofs.YtheaacliomfkoaaGreatDoor

/- Amounts' texts, in plain lists of bytes. -/
namespace Go.Proofs.YtheaacliomfkoaaGreatDoor

/-- An amount's text as it is built. -/
structure CentsIs (l : List UInt8) (neg : Bool) (a : List UInt8) (d1 d2 : UInt8) : Prop where
  eq : l = (if neg = true then [45] else []) ++ (a ++ [46, d1, d2])
  neat : neat a = true
  dig : a.all digC = true
  h1 : digC d1 = true
  h2 : digC d2 = true
  most : numL 0 (a ++ [d1, d2]) ≤ 1125899906842624
  pos : ¬ (neg = true ∧ numL 0 (a ++ [d1, d2]) = 0)
def signed (neg : Bool) (n : Nat) : Int := if neg = true then -(n : Int) else n
theorem numL_two (a : List UInt8) (d1 d2 : UInt8) : numL 0 (a ++ [d1, d2]) = 100 * numL 0 a + 10 * (d1.toNat - 48) + (d2.toNat - 48) := by
  rw [numL_append]
  generalize numL 0 a = n
  show 10 * (10 * n + (d1.toNat - 48)) + (d2.toNat - 48) = _
  omega
theorem CentsIs.len {l : List UInt8} {neg : Bool} {a : List UInt8} {d1 d2 : UInt8} (h : CentsIs l neg a d1 d2) : 1 ≤ a.length ∧ a.length ≤ 14 := by
  have h1 := h.most
  rw [numL_two] at h1
  have e := dec_of _ a rfl h.neat h.dig
  have h2 := dec_len 13 (numL 0 a) (by omega)
  rw [e] at h2
  refine ⟨?_, by omega⟩
  rcases Nat.eq_zero_or_pos a.length with h0 | h0
  · have := h.neat; rw [List.length_eq_zero_iff.1 h0] at this; cases this
  · exact h0
theorem CentsIs.head {l : List UInt8} {neg : Bool} {a : List UInt8} {d1 d2 : UInt8} (h : CentsIs l neg a d1 d2) : (l.head? == some 45) = neg := by
  have hl := h.len
  rw [h.eq]
  cases neg with
  | true => rfl
  | false =>
    match ha : a with
    | [] => simp at hl
    | x :: r =>
      have hd := h.dig
      rw [List.all_cons, Bool.and_eq_true] at hd
      have h1 := digC_iff.1 hd.1
      have : x ≠ 45 := by intro e; subst e; revert h1; decide
      simp [this]
theorem centsO_of {l : List UInt8} {neg : Bool} {a : List UInt8} {d1 d2 : UInt8} (h : CentsIs l neg a d1 d2) : centsO l = some (signed neg (numL 0 (a ++ [d1, d2]))) := by
  have hh := h.head
  have hl := h.len
  unfold centsO
  simp only [hh]
  have er : (if neg = true then l.drop 1 else l) = a ++ [46, d1, d2] := by
    rw [h.eq]
    cases neg <;> rfl
  rw [er]
  have e0 : (a ++ [46, d1, d2]).length = a.length + 3 := by simp
  have e1 : (a ++ [46, d1, d2]).length - 3 = a.length := by omega
  have e2 : (a ++ [46, d1, d2]).length - 2 = a.length + 1 := by omega
  have e3 : (a ++ [46, d1, d2]).take a.length = a := List.take_left
  have e4 : (a ++ [46, d1, d2]).drop (a.length + 1) = [d1, d2] := by rw [← List.drop_drop, List.drop_left]; rfl
  have e5 : (a ++ [46, d1, d2])[a.length]? = some 46 := by rw [List.getElem?_append_right (Nat.le_refl _), Nat.sub_self]; rfl
  rw [if_pos (by omega), e1, e2, e3, e4, e5, if_pos ⟨rfl, h.dig, by simp [h.h1, h.h2], h.neat, h.most, h.pos⟩]
  rfl
theorem centsO_is {l : List UInt8} {c : Int} (h : centsO l = some c) : ∃ neg a d1 d2, CentsIs l neg a d1 d2 ∧ c = signed neg (numL 0 (a ++ [d1, d2])) := by
  unfold centsO at h
  simp only at h
  obtain ⟨neg, hneg⟩ : ∃ neg, (l.head? == some 45) = neg := ⟨_, rfl⟩
  rw [hneg] at h
  obtain ⟨r, hr⟩ : ∃ r, (if neg = true then l.drop 1 else l) = r := ⟨_, rfl⟩
  rw [hr] at h
  have hlr : l = (if neg = true then [45] else []) ++ r := by
    rw [← hr]
    cases neg with
    | false => rfl
    | true =>
      match l, hneg with
      | x :: l', hneg =>
        have : x = 45 := by simpa using hneg
        subst this; rfl
  split at h
  · rename_i hlen
    split at h
    · rename_i hc
      obtain ⟨h1, h2, h3, h4, h5, h6⟩ := hc
      have hlt : r.length - 3 < r.length := by omega
      have hd2 : (r.drop (r.length - 2)).length = 2 := by rw [List.length_drop]; omega
      have hsplit : r = r.take (r.length - 3) ++ r[r.length - 3] :: r.drop (r.length - 2) := by
        conv => lhs; rw [← List.take_append_drop (r.length - 3) r]
        rw [List.drop_eq_getElem_cons hlt, show r.length - 3 + 1 = r.length - 2 by omega]
      have h46 : r[r.length - 3] = 46 := by rw [List.getElem?_eq_getElem hlt] at h1; exact Option.some.inj h1
      rw [h46] at hsplit
      match hm : r.drop (r.length - 2), hd2 with
      | [d1, d2], _ =>
        rw [hm] at hsplit h3 h5 h6 h
        simp only [List.all_cons, List.all_nil, Bool.and_true, Bool.and_eq_true] at h3
        refine ⟨neg, r.take (r.length - 3), d1, d2, ⟨?_, h4, h2, h3.1, h3.2, h5, h6⟩, ?_⟩
        · rw [hlr, ← hsplit]
        · have := Option.some.inj h
          exact this.symm
    · cases h
  · cases h
/-- A byte of an amount's text. -/
def centC (k : Nat) (b : UInt8) : Prop := digC b = true ∨ b = 46 ∨ (k = 0 ∧ b = 45)
theorem CentsIs.bytes {l : List UInt8} {neg : Bool} {a : List UInt8} {d1 d2 : UInt8} (h : CentsIs l neg a d1 d2) {k : Nat} {b : UInt8} (hb : l[k]? = some b) : centC k b := by
  have hr : ∀ j : Nat, (a ++ [46, d1, d2])[j]? = some b → digC b = true ∨ b = 46 := by
    intro j hj
    have hm := List.mem_of_getElem? hj
    rw [List.mem_append] at hm
    rcases hm with hm | hm
    · exact .inl (List.all_eq_true.1 h.dig b hm)
    · simp only [List.mem_cons, List.not_mem_nil, or_false] at hm
      rcases hm with rfl | rfl | rfl
      · exact .inr rfl
      · exact .inl h.h1
      · exact .inl h.h2
  rw [h.eq] at hb
  cases neg with
  | false =>
    rcases hr k (by simpa using hb) with h | h
    · exact .inl h
    · exact .inr (.inl h)
  | true =>
    cases k with
    | zero => exact .inr (.inr ⟨rfl, by simpa using hb.symm⟩)
    | succ k =>
      rcases hr k (by simpa using hb) with h | h
      · exact .inl h
      · exact .inr (.inl h)
theorem filter_dig {a : List UInt8} (h : a.all digC = true) : a.filter digC = a := List.filter_eq_self.2 (fun x hx => List.all_eq_true.1 h x hx)
theorem CentsIs.num {l : List UInt8} {neg : Bool} {a : List UInt8} {d1 d2 : UInt8} (h : CentsIs l neg a d1 d2) : numL 0 (l.filter digC) = numL 0 (a ++ [d1, d2]) := by
  have e1 : digC 46 = false := by decide
  have e2 : digC 45 = false := by decide
  have e3 : (a ++ [46, d1, d2]).filter digC = a ++ [d1, d2] := by
    rw [List.filter_append, filter_dig h.dig]
    simp [e1, h.h1, h.h2]
  rw [h.eq]
  cases neg with
  | false => show numL 0 ((a ++ [46, d1, d2]).filter digC) = _; rw [e3]
  | true =>
    show numL 0 ((45 :: (a ++ [46, d1, d2])).filter digC) = _
    rw [List.filter_cons, e2]
    simp only [Bool.false_eq_true, if_false]
    rw [e3]
/-- An amount's text. -/
def textC (c : Int) : List UInt8 := if c.natAbs ≤ 1125899906842624 then (if c < 0 then [45] else []) ++ (Lib.decDigits (c.natAbs / 100) ++ 46 :: (Lib.decDigits (c.natAbs % 100 / 10) ++ Lib.decDigits (c.natAbs % 100 % 10))) else []
theorem textC_is {c : Int} (h : c.natAbs ≤ 1125899906842624) : ∃ d1 d2, CentsIs (textC c) (decide (c < 0)) (Lib.decDigits (c.natAbs / 100)) d1 d2 ∧ c = signed (decide (c < 0)) (numL 0 (Lib.decDigits (c.natAbs / 100) ++ [d1, d2])) := by
  have hn : numL 0 (Lib.decDigits (c.natAbs / 100) ++ [UInt8.ofNat (48 + c.natAbs % 100 / 10 % 10), UInt8.ofNat (48 + c.natAbs % 100 % 10 % 10)]) = c.natAbs := by
    rw [numL_two, dec_num, dig_nat, dig_nat]; omega
  refine ⟨UInt8.ofNat (48 + c.natAbs % 100 / 10 % 10), UInt8.ofNat (48 + c.natAbs % 100 % 10 % 10), ⟨?_, dec_neat _, dec_dig _, ?_, ?_, ?_, ?_⟩, ?_⟩
  · unfold textC
    rw [if_pos h, dec_small (m := c.natAbs % 100 / 10) (by omega), dec_small (m := c.natAbs % 100 % 10) (by omega)]
    by_cases h0 : c < 0
    · rw [if_pos h0, if_pos (decide_eq_true h0)]; rfl
    · rw [if_neg h0, if_neg (by simpa using h0)]; rfl
  · rw [digC_iff, dig_nat]; omega
  · rw [digC_iff, dig_nat]; omega
  · rw [hn]; exact h
  · rw [hn]; intro ⟨h1, h2⟩; have := of_decide_eq_true h1; omega
  · rw [hn]
    unfold signed
    by_cases h0 : c < 0
    · rw [if_pos (decide_eq_true h0)]; omega
    · rw [if_neg (by simpa using h0)]; omega
theorem centsO_text {c : Int} (h : c.natAbs ≤ 1125899906842624) : centsO (textC c) = some c := by
  obtain ⟨d1, d2, h1, h2⟩ := textC_is h
  rw [centsO_of h1, ← h2]
theorem text_centsO {l : List UInt8} {c : Int} (h : centsO l = some c) : c.natAbs ≤ 1125899906842624 ∧ textC c = l := by
  obtain ⟨neg, a, d1, d2, h1, rfl⟩ := centsO_is h
  have hm := h1.most
  have hp := h1.pos
  have hn := numL_two a d1 d2
  generalize hN : numL 0 (a ++ [d1, d2]) = N at *
  have hna : (signed neg N).natAbs = N := by unfold signed; cases neg <;> simp
  have hlt : (signed neg N < 0) ↔ neg = true := by
    unfold signed
    cases neg with
    | false => simp
    | true => simp; simp at hp; omega
  refine ⟨by omega, ?_⟩
  have hd1 := digC_iff.1 h1.h1
  have hd2 := digC_iff.1 h1.h2
  unfold textC
  rw [hna, if_pos hm, dec_small (m := N % 100 / 10) (by omega), dec_small (m := N % 100 % 10) (by omega), h1.eq]
  have e0 : N / 100 = numL 0 a := by omega
  have e1 : UInt8.ofNat (48 + N % 100 / 10 % 10) = d1 := UInt8.toNat_inj.1 (by rw [dig_nat]; omega)
  have e2 : UInt8.ofNat (48 + N % 100 % 10 % 10) = d2 := UInt8.toNat_inj.1 (by rw [dig_nat]; omega)
  rw [e0, e1, e2, dec_of _ a rfl h1.neat h1.dig]
  by_cases hg : neg = true
  · rw [if_pos (hlt.2 hg), if_pos hg]; rfl
  · rw [if_neg (fun h => hg (hlt.1 h)), if_neg hg]; rfl
end Go.Proofs.YtheaacliomfkoaaGreatDoor

/- Amounts: fits, digits, text. -/
namespace Go.Proofs.YtheaacliomfkoaaGreatDoor
open Go.RowKit

theorem bytes_app (a b : List UInt8) : (⟨a.toArray⟩ : ByteArray) ++ ⟨b.toArray⟩ = ⟨(a ++ b).toArray⟩ := ByteArray.mk_append_mk _ _
theorem size_bytes (l : List UInt8) : (⟨l.toArray⟩ : ByteArray).size = l.length := by simp [ByteArray.size]
theorem ls_bytes (l : List UInt8) : ls ⟨l.toArray⟩ = l := rfl
/-- string(rune) of a digit. -/
theorem rune_string (n : Int) (h : 0 ≤ n ∧ n < 10) (w : World) : (convert 21 9 (.int .i32 (48 + n))).run Tryz.prog w = .ok (.string ⟨[UInt8.ofNat (48 + n.toNat % 10)].toArray⟩) w := by
  have : n = 0 ∨ n = 1 ∨ n = 2 ∨ n = 3 ∨ n = 4 ∨ n = 5 ∨ n = 6 ∨ n = 7 ∨ n = 8 ∨ n = 9 := by omega
  rcases this with rfl | rfl | rfl | rfl | rfl | rfl | rfl | rfl | rfl | rfl <;> (show Sem.run _ _ _ = _; kernel_rfl)

theorem ce_Fits (c : Int) (w : World) : Calls Tryz.prog 46 #[.int .i64 c] w fun e w' => e = .returned (.bool (decide (c.natAbs ≤ 1125899906842624))) ∧ w = w' := by
  by_cases h1 : -1125899906842624 ≤ c
  · go_enter Tryz.func46, Tryz.ntmps46
    go_wp2
    go_ret
    exact ⟨ret_b (decide_eq_decide.2 (by omega)), rfl⟩
  · go_enter Tryz.func46, Tryz.ntmps46
    go_wp2
    go_ret
    exact ⟨ret_b (decide_eq_false (by omega)).symm, rfl⟩

set_option maxHeartbeats 1000000 in
theorem ce_whole (n : Nat) (w : World) (hn : n ≤ 1125899906842624) : Calls Tryz.prog 87 #[.int .i64 n] w fun e w' => e = .returned (.string ⟨(Lib.decDigits n).toArray⟩) ∧ w = w' := by
  have HL : Hid ((Lib.decDigits n).length ≤ 16) := Lib.hid (dec_len 15 n (by omega))
  go_enter Tryz.func87, Tryz.ntmps87
  go_wp2
  go_loop [0, 3] (fun nv sv => ∃ (m : Nat) (S : List UInt8), nv = .int .i64 m ∧ sv = .string ⟨S.toArray⟩ ∧ m ≤ n ∧ S.length ≤ 16 ∧ Hid (Lib.decDigits n = Lib.decDigits m ++ S)) (fun nv _ => (intOf nv).toNat)
  case atStart => exact ⟨n, [], rfl, rfl, Nat.le_refl _, by simp, Lib.hid (by simp)⟩
  case round =>
    obtain ⟨m, S, rfl, rfl, hm, hS, HR⟩ := hrel
    have hsz := size_bytes S
    by_cases h : 9 < (m : Int)
    · have hcv := rune_string ((m : Int) % 10) (by omega)
      have e1 : ((m : Int) % 10).toNat % 10 = m % 10 := by omega
      rw [e1] at hcv
      have HR2 : Hid (Lib.decDigits n = Lib.decDigits (m / 10) ++ (UInt8.ofNat (48 + m % 10) :: S)) := Lib.hid (by rw [HR.out, dec_step (m := m) (by omega)]; simp)
      have hS2 : (UInt8.ofNat (48 + m % 10) :: S).length ≤ 16 := by have := HL.out; rw [HR2.out] at this; simp at this ⊢; omega
      have HA := Lib.hid (bytes_app [UInt8.ofNat (48 + m % 10)] S)
      clear e1
      generalize UInt8.ofNat (48 + m % 10) = c at *
      have hz := size_bytes [c]
      go_wp2
      exact ⟨⟨m / 10, c :: S, by go_num, congrArg Value.string HA.out, by omega, hS2, HR2⟩, by simp [intOf]; omega⟩
    · have hcv := rune_string (m : Int) (by omega)
      have e1 : ((m : Int)).toNat % 10 = m % 10 := by omega
      rw [e1] at hcv
      have HR2 : Hid (Lib.decDigits n = UInt8.ofNat (48 + m % 10) :: S) := Lib.hid (by rw [HR.out, dec_small (m := m) (by omega)]; simp)
      have HA := Lib.hid (bytes_app [UInt8.ofNat (48 + m % 10)] S)
      clear e1
      generalize UInt8.ofNat (48 + m % 10) = c at *
      go_wp2
      go_ret
      exact ⟨by rw [HR2.out]; exact congrArg (fun s => Ending.returned (Value.string s)) HA.out, rfl⟩

theorem ce_wholeAt (n : Nat) (hn : n ≤ 1125899906842624) (x : Int) (hx : x = n) (w : World) : Calls Tryz.prog 87 #[.int .i64 x] w fun e w' => e = .returned (.string ⟨(Lib.decDigits n).toArray⟩) ∧ w = w' := by
  subst hx
  exact ce_whole n w hn
theorem cat5 (s a b c : List UInt8) : ((((⟨s.toArray⟩ : ByteArray) ++ ⟨a.toArray⟩) ++ ⟨#[46]⟩) ++ ⟨b.toArray⟩) ++ ⟨c.toArray⟩ = ⟨(s ++ (a ++ 46 :: (b ++ c))).toArray⟩ := by
  have : (⟨#[46]⟩ : ByteArray) = ⟨[46].toArray⟩ := rfl
  rw [this]
  simp only [bytes_app]
  simp

set_option maxHeartbeats 1000000 in
theorem ce_Text (c : Int) (w : World) : Calls Tryz.prog 40 #[.int .i64 c] w fun e w' => e = .returned (.string ⟨(textC c).toArray⟩) ∧ w = w' := by
  by_cases hf : c.natAbs ≤ 1125899906842624
  · obtain ⟨m, hm⟩ : ∃ m : Nat, c.natAbs = m := ⟨_, rfl⟩
    have HF : Hid (decide (c.natAbs ≤ 1125899906842624) = true) := Lib.hid (decide_eq_true hf)
    have HW1 := Lib.hid (ce_wholeAt (m / 100) (by omega))
    have HW2 := Lib.hid (ce_wholeAt (m % 100 / 10) (by omega))
    have HW3 := Lib.hid (ce_wholeAt (m % 100 % 10) (by omega))
    have HT : Hid (textC c = (if c < 0 then [45] else []) ++ (Lib.decDigits (m / 100) ++ 46 :: (Lib.decDigits (m % 100 / 10) ++ Lib.decDigits (m % 100 % 10)))) := Lib.hid (by unfold textC; rw [hm, if_pos (by omega)])
    have l1 := dec_len 15 (m / 100) (by omega)
    have l2 := dec_len 0 (m % 100 / 10) (by omega)
    have l3 := dec_len 0 (m % 100 % 10) (by omega)
    have z1 := size_bytes (Lib.decDigits (m / 100))
    have z2 := size_bytes (Lib.decDigits (m % 100 / 10))
    have z3 := size_bytes (Lib.decDigits (m % 100 % 10))
    have hmm : m ≤ 1125899906842624 := by omega
    generalize Lib.decDigits (m / 100) = A at *
    generalize Lib.decDigits (m % 100 / 10) = B at *
    generalize Lib.decDigits (m % 100 % 10) = C at *
    by_cases h0 : c < 0
    · have hcm : c = -(m : Int) := by omega
      have HT2 : Hid (textC c = [45] ++ (A ++ 46 :: (B ++ C))) := Lib.hid (by rw [HT.out, if_pos h0])
      have HC := Lib.hid (cat5 [45] A B C)
      clear HT hm
      subst hcm
      go_enter Tryz.func40, Tryz.ntmps40
      go_wp2_with fail
      refine (ce_Fits _ _).mono ?_
      rintro e w1 ⟨rfl, rfl⟩
      rw [HF.out]
      go_wp2_with fail
      refine (HW1.out _ (by omega) _).mono ?_
      rintro e w1 ⟨rfl, rfl⟩
      go_wp2_with fail
      refine (HW2.out _ (by omega) _).mono ?_
      rintro e w1 ⟨rfl, rfl⟩
      go_wp2_with fail
      refine (HW3.out _ (by omega) _).mono ?_
      rintro e w1 ⟨rfl, rfl⟩
      go_wp2
      go_ret
      exact ⟨by rw [HT2.out, ← HC.out]; rfl, rfl⟩
    · have hcm : c = (m : Int) := by omega
      have HT2 : Hid (textC c = [] ++ (A ++ 46 :: (B ++ C))) := Lib.hid (by rw [HT.out, if_neg h0])
      have HC := Lib.hid (cat5 [] A B C)
      clear HT hm
      subst hcm
      go_enter Tryz.func40, Tryz.ntmps40
      go_wp2_with fail
      refine (ce_Fits _ _).mono ?_
      rintro e w1 ⟨rfl, rfl⟩
      rw [HF.out]
      go_wp2_with fail
      refine (HW1.out _ (by omega) _).mono ?_
      rintro e w1 ⟨rfl, rfl⟩
      go_wp2_with fail
      refine (HW2.out _ (by omega) _).mono ?_
      rintro e w1 ⟨rfl, rfl⟩
      go_wp2_with fail
      refine (HW3.out _ (by omega) _).mono ?_
      rintro e w1 ⟨rfl, rfl⟩
      go_wp2
      go_ret
      exact ⟨by rw [HT2.out, ← HC.out]; rfl, rfl⟩
  · have HF : Hid (decide (c.natAbs ≤ 1125899906842624) = false) := Lib.hid (decide_eq_false hf)
    have HT : Hid (textC c = []) := Lib.hid (by unfold textC; rw [if_neg hf])
    clear hf
    go_enter Tryz.func40, Tryz.ntmps40
    go_wp2_with fail
    refine (ce_Fits _ _).mono ?_
    rintro e w1 ⟨rfl, rfl⟩
    rw [HF.out]
    go_wp2
    go_ret
    exact ⟨by rw [HT.out]; rfl, rfl⟩
end Go.Proofs.YtheaacliomfkoaaGreatDoor

/- Rates: the program's reading of a text. -/
namespace Go.Proofs.YtheaacliomfkoaaGreatDoor
open Go.RowKit Go.Sort

/-- A rate's text, taken apart. -/
structure RateAt (l : List UInt8) (neg ok : Bool) (a p : List UInt8) (pt : Bool) : Prop where
  ne : l ≠ []
  hn : (l.head? == some 45) = neg
  hok : ((if neg = true then l.drop 1 else l).getLast? == some 37) = ok
  cut : cutB 46 (if ok = true then (if neg = true then l.drop 1 else l).dropLast else (if neg = true then l.drop 1 else l)) = (a, p, pt)
def wholeB (a : List UInt8) : Bool := a.all digC && neat a
def partB (p : List UInt8) : Bool := digsB p && decide (p.length ≤ 4) && !(p.getLast? == some 48)
def rateN (a p : List UInt8) : Nat := numL 0 a * 10000 + numL 0 ((p ++ [48, 48, 48, 48]).take 4)
theorem rateE_at {l a p : List UInt8} {neg ok pt : Bool} (h : RateAt l neg ok a p pt) : rateE l =
    if (ok && wholeB a) = false then (0, 3) else if (pt && !partB p) = true then (0, 3) else if (neg && a == [48] && !pt) = true then (0, 3) else
      if 1000000000 < rateN a p then (0, 2) else (signed neg (rateN a p), 0) := by
  unfold rateE
  rw [if_neg h.ne]
  simp only
  rw [h.hn]
  have h2 := h.hok
  have h3 := h.cut
  generalize (if neg = true then l.drop 1 else l) = r at *
  cases ok with
  | false =>
    have : r.getLast? ≠ some 37 := by simpa using h2
    rw [if_pos this]; rfl
  | true =>
    have : r.getLast? = some 37 := by simpa using h2
    rw [if_neg (by rw [this]; simp)]
    simp only [if_true] at h3
    rw [h3]
    simp only [Bool.true_and]
    have eW : (wholeB a = false) ↔ ¬ (a.all digC = true ∧ neat a = true) := by
      rw [← Bool.not_eq_true]; unfold wholeB; rw [Bool.and_eq_true]
    have eP : ((pt && !partB p) = true) ↔ (pt = true ∧ ¬ (p.all digC = true ∧ p ≠ [] ∧ p.length ≤ 4 ∧ p.getLast? ≠ some 48)) := by
      rw [Bool.and_eq_true, Bool.not_eq_true', ← Bool.not_eq_true]
      unfold partB digsB
      simp [and_assoc]
    have eZ : ((neg && a == [48] && !pt) = true) ↔ (neg = true ∧ a = [48] ∧ pt = false) := by simp [and_assoc]
    by_cases cW : wholeB a = false
    · rw [if_pos cW, if_pos (eW.1 cW)]
    rw [if_neg cW, if_neg (fun k => cW (eW.2 k))]
    by_cases cP : (pt && !partB p) = true
    · rw [if_pos cP, if_pos (eP.1 cP)]
    rw [if_neg cP, if_neg (fun k => cP (eP.2 k))]
    by_cases cZ : (neg && a == [48] && !pt) = true
    · rw [if_pos cZ, if_pos (eZ.1 cZ)]
    rw [if_neg cZ, if_neg (fun k => cZ (eZ.2 k))]
    rfl
theorem numL_lt4 {l : List UInt8} (hd : (l.take 4).all digC = true) : numL 0 (l.take 4) < 10000 := by
  have h1 := numL_lt (l.take 4) 0 hd
  have h3 : (10 : Nat) ^ (l.take 4).length ≤ 10 ^ 4 := Nat.pow_le_pow_right (by decide) (by rw [List.length_take]; omega)
  have h4 : (10 : Nat) ^ 4 = 10000 := by decide
  omega
theorem rate_num {a p : List UInt8} (hd : ((p ++ [48, 48, 48, 48]).take 4).all digC = true) : (1000000000 < satN a 100000 * 10000 + satN ((p ++ [48, 48, 48, 48]).take 4) 10000 ↔ 1000000000 < rateN a p) ∧ (rateN a p ≤ 1000000000 → satN a 100000 * 10000 + satN ((p ++ [48, 48, 48, 48]).take 4) 10000 = rateN a p) := by
  have h1 := numL_lt4 hd
  unfold satN rateN
  omega
end Go.Proofs.YtheaacliomfkoaaGreatDoor

/- Cutting texts: the library's contracts at one byte, in plain words. -/
namespace Go.Proofs.YtheaacliomfkoaaGreatDoor
open Go.RowKit

theorem c_Pre (s : ByteArray) (c : UInt8) (w : World) : Calls Tryz.prog 200 #[.string s, .string ⟨#[c]⟩] w fun e w' => e = .returned (.tuple #[.string ⟨(if ((ls s).head? == some c) = true then (ls s).drop 1 else ls s).toArray⟩, .bool ((ls s).head? == some c)]) ∧ w = w' := by
  refine (Tryz.strings_CutPrefix s ⟨#[c]⟩ w).mono ?_
  rintro e w1 ⟨rfl, rfl⟩
  refine ⟨?_, rfl⟩
  have h1 := pre_one c (ls s)
  have h2 := trimPre_one c (ls s)
  unfold ls at h1 h2
  show Ending.returned (.tuple #[.string ⟨(Lib.trimPrefix s.data.toList [c]).toArray⟩, .bool (Lib.hasPrefix s.data.toList [c])]) = _
  rw [h1, h2]; rfl
theorem c_Suf (s : ByteArray) (c : UInt8) (w : World) (hs : s.size ≤ 1000000) : Calls Tryz.prog 201 #[.string s, .string ⟨#[c]⟩] w fun e w' => e = .returned (.tuple #[.string ⟨(if ((ls s).getLast? == some c) = true then (ls s).dropLast else ls s).toArray⟩, .bool ((ls s).getLast? == some c)]) ∧ w = w' := by
  refine (Tryz.strings_CutSuffix s ⟨#[c]⟩ w (by omega)).mono ?_
  rintro e w1 ⟨rfl, rfl⟩
  refine ⟨?_, rfl⟩
  have h1 := suf_one c (ls s)
  have h2 := trimSuf_one c (ls s)
  unfold ls at h1 h2
  show Ending.returned (.tuple #[.string ⟨(Lib.trimSuffix s.data.toList [c]).toArray⟩, .bool (Lib.hasSuffix s.data.toList [c])]) = _
  rw [h1, h2]; rfl
theorem c_Cut (s : ByteArray) (c : UInt8) (a p : List UInt8) (pt : Bool) (hc : cutB c (ls s) = (a, p, pt)) (w : World) (hs : s.size ≤ 1000000) (hT : Tb w) : Calls Tryz.prog 182 #[.string s, .string ⟨#[c]⟩] w fun e w' => e = .returned (.tuple #[.string ⟨a.toArray⟩, .string ⟨p.toArray⟩, .bool pt]) ∧ Grows w w' := by
  obtain ⟨m, hm⟩ := hT.ml
  refine (Tryz.strings_Cut s ⟨#[c]⟩ m w (by omega) hm).mono ?_
  rintro e w1 ⟨rfl, nd, rfl⟩
  refine ⟨?_, .of_drewN w nd⟩
  have h1 := cut_eq c (ls s)
  rw [hc] at h1
  unfold ls at h1
  show Ending.returned (.tuple #[.string ⟨(Lib.cut s.data.toList [c]).1.toArray⟩, .string ⟨(Lib.cut s.data.toList [c]).2.1.toArray⟩, .bool (Lib.cut s.data.toList [c]).2.2]) = _
  rw [h1]
theorem c_Split (s : ByteArray) (c : UInt8) (w : World) (hs : s.size ≤ 1000000) (hT : Tb w) : Calls Tryz.prog 181 #[.string s, .string ⟨#[c]⟩] w fun e w' => ∃ L : List ByteArray, L.map ls = pieces c (ls s) ∧ e = .returned (.slice (some ⟨w.heap.size, 0, none⟩) L.length L.length) ∧ w' = w.alloc (.cells (L.map Value.string).toArray 9) := by
  obtain ⟨m, hm⟩ := hT.ml
  refine (Tryz.strings_Split s ⟨#[c]⟩ m w (by omega) hm (Nat.le_refl 1)).mono ?_
  rintro e w1 ⟨rfl, rfl⟩
  exact ⟨_, split_ls c s, by rw [split_len], rfl⟩
/-- How long the parts are. -/
theorem cut_sizes {c : UInt8} {l a p : List UInt8} {pt : Bool} (h : cutB c l = (a, p, pt)) : a.length ≤ l.length ∧ p.length ≤ l.length := by
  cases pt with
  | true => have := cutB_len (c := c) (l := l) (by rw [h]); rw [h] at this; simp only at this; omega
  | false =>
    have := cutB_miss (c := c) (l := l) (by rw [h])
    rw [h] at this
    obtain ⟨h1, h2⟩ := this
    simp only at h1 h2
    rw [h1, h2]; simp
end Go.Proofs.YtheaacliomfkoaaGreatDoor

/- Rates: the program's reading, walked. -/
namespace Go.Proofs.YtheaacliomfkoaaGreatDoor
open Go.RowKit Go.Sort

def rateR (l : List UInt8) : Value := .tuple #[.int .i64 (rateE l).1, .int .i64 (rateE l).2]
theorem rateR_of {l : List UInt8} {x : Int × Int} (h : rateE l = x) : Ending.returned (.tuple #[.int .i64 x.1, .int .i64 x.2]) = .returned (rateR l) := by unfold rateR; rw [h]
theorem part_dig {a p : List UInt8} {r : List UInt8} {pt : Bool} (hc : cutB 46 r = (a, p, pt)) (h : (pt && !partB p) = false) : ((p ++ [48, 48, 48, 48]).take 4).all digC = true := by
  have h1 : p.all digC = true := by
    cases pt with
    | true =>
      rw [Bool.true_and, Bool.not_eq_false'] at h
      unfold partB digsB at h
      simp only [Bool.and_eq_true] at h
      exact h.1.1.1
    | false =>
      have := cutB_miss (c := 46) (l := r) (by rw [hc])
      rw [hc] at this
      obtain ⟨_, h3⟩ := this
      simp only at h3
      rw [h3]; rfl
  rw [List.all_eq_true]
  intro x hx
  have h2 := List.mem_of_mem_take hx
  rw [List.mem_append] at h2
  rcases h2 with h2 | h2
  · exact List.all_eq_true.1 h1 x h2
  · simp only [List.mem_cons, List.not_mem_nil, or_false, or_self] at h2
    subst h2; decide

theorem whole_no {a : List UInt8} (h : digsB a = false) : wholeB a = false := by
  unfold digsB at h
  unfold wholeB neat
  cases h1 : a.all digC with
  | false => rfl
  | true => rw [h1, Bool.true_and] at h; rw [h]; rfl
theorem digs_all {a : List UInt8} (h : digsB a = true) : a.all digC = true ∧ a ≠ [] := by
  unfold digsB at h
  rw [Bool.and_eq_true] at h
  exact ⟨h.1, by intro e; rw [e] at h; simp at h⟩
theorem whole_one {a : List UInt8} (h : digsB a = true) (hl : a.length ≤ 1) : wholeB a = true := by
  obtain ⟨h1, h2⟩ := digs_all h
  have : neat a = true := neat_one (s := ⟨a.toArray⟩) (by rw [size_bytes]; have := List.length_pos_iff.2 h2; omega)
  unfold wholeB; rw [h1, this]; rfl
theorem whole_two {a : List UInt8} {b : UInt8} (h : digsB a = true) (hl : 1 < a.length) (hb : a[0]? = some b) : wholeB a = decide (b.toNat ≠ 48) := by
  obtain ⟨h1, h2⟩ := digs_all h
  have : neat a = decide (b.toNat ≠ 48) := neat_two (s := ⟨a.toArray⟩) (by rw [size_bytes]; omega) hb
  unfold wholeB; rw [h1, this]; rfl
theorem part_no {p : List UInt8} (h : digsB p = false) : partB p = false := by unfold partB; rw [h]; rfl
theorem part_long {p : List UInt8} (h : 4 < p.length) : partB p = false := by unfold partB; rw [decide_eq_false (by omega)]; simp
theorem part_at {p : List UInt8} {b : UInt8} (h : digsB p = true) (hl : p.length ≤ 4) (hb : p[p.length - 1]? = some b) : partB p = decide (b.toNat ≠ 48) := by
  have : p.getLast? = some b := by rw [List.getLast?_eq_getElem?]; exact hb
  unfold partB
  rw [h, decide_eq_true hl, this]
  by_cases h48 : b = 48
  · subst h48; rfl
  · have e : b.toNat ≠ 48 := fun e => h48 (UInt8.toNat_inj.1 (by rw [e]; rfl))
    simp [h48, e]

set_option maxHeartbeats 4000000 in
set_option maxRecDepth 10000 in
theorem rt_Parse (s : ByteArray) (w : World) (hs : s.size ≤ 1000000) (hT : Tb w) : Calls Tryz.prog 185 #[.string s] w fun e w' => e = .returned (rateR (ls s)) ∧ Below w.heap.size w w' := by
  by_cases h0 : s.size = 0
  · have he : s.toList.isEmpty = true := by rw [isEmpty_ls, (nil_iff s).2 h0]; rfl
    have HF := Lib.hid (rateR_of (l := ls s) (x := (0, 10)) (by rw [(nil_iff s).2 h0]; rfl))
    clear h0
    go_enter Tryz.func185, Tryz.ntmps185
    go_wp2
    go_ret2
    exact ⟨HF.out, Below.refl _ _⟩
  have he : s.toList.isEmpty = false := by rw [isEmpty_ls]; simpa using fun h => h0 ((nil_iff s).1 h)
  obtain ⟨neg, hneg⟩ : ∃ neg, ((ls s).head? == some 45) = neg := ⟨_, rfl⟩
  obtain ⟨r, hr⟩ : ∃ r, (if neg = true then (ls s).drop 1 else ls s) = r := ⟨_, rfl⟩
  obtain ⟨ok, hok⟩ : ∃ ok, (r.getLast? == some 37) = ok := ⟨_, rfl⟩
  obtain ⟨q, hq⟩ : ∃ q, (if ok = true then r.dropLast else r) = q := ⟨_, rfl⟩
  obtain ⟨a, p, pt, hc⟩ : ∃ a p pt, cutB 46 q = (a, p, pt) := ⟨_, _, _, rfl⟩
  have HR : Hid (RateAt (ls s) neg ok a p pt) := Lib.hid ⟨fun h => h0 ((nil_iff s).1 h), hneg, by rw [hr]; exact hok, by rw [hr, hq]; exact hc⟩
  have HE := Lib.hid (rateE_at HR.out)
  have HQ := Lib.hid hc
  have hrl : r.length ≤ 1000000 := by rw [← hr]; have := ls_len s; split <;> simp <;> omega
  have hql : q.length ≤ 1000000 := by rw [← hq]; split <;> (try simp) <;> omega
  have hal := cut_sizes hc
  have HC1 : Hid (∀ W, Calls Tryz.prog 200 #[.string s, .string ⟨#[45]⟩] W fun e w' => e = .returned (.tuple #[.string ⟨r.toArray⟩, .bool neg]) ∧ W = w') := Lib.hid (fun W => by have := c_Pre s 45 W; rw [hneg, hr] at this; exact this)
  have HC2 : Hid (∀ W, Calls Tryz.prog 201 #[.string ⟨r.toArray⟩, .string ⟨#[37]⟩] W fun e w' => e = .returned (.tuple #[.string ⟨q.toArray⟩, .bool ok]) ∧ W = w') := Lib.hid (fun W => by have := c_Suf ⟨r.toArray⟩ 37 W (by rw [size_bytes]; omega); rw [ls_bytes, hok, hq] at this; exact this)
  have HC3 := Lib.hid (fun W hT => c_Cut ⟨q.toArray⟩ 46 a p pt hc W (by rw [size_bytes]; omega) hT)
  have HTB := Lib.hid hT
  have HDA : Hid (∀ W, Calls Tryz.prog 202 #[.string ⟨a.toArray⟩] W fun e w' => e = .returned (.bool (digsB a)) ∧ W = w') := Lib.hid (fun W => rt_digits ⟨a.toArray⟩ W (by rw [size_bytes]; omega))
  have HDP : Hid (∀ W, Calls Tryz.prog 202 #[.string ⟨p.toArray⟩] W fun e w' => e = .returned (.bool (digsB p)) ∧ W = w') := Lib.hid (fun W => rt_digits ⟨p.toArray⟩ W (by rw [size_bytes]; omega))
  have hal1 : a.length ≤ 1000000 := by omega
  have hpl1 : p.length ≤ 1000000 := by omega
  have za := size_bytes a
  have zp := size_bytes p
  clear h0 hneg hr hok hq hc hT
  go_enter Tryz.func185, Tryz.ntmps185
  go_wp2_with fail
  refine (HC1.out _).mono ?_
  rintro e w1 ⟨rfl, rfl⟩
  go_wp2_with fail
  refine (HC2.out _).mono ?_
  rintro e w1 ⟨rfl, rfl⟩
  go_wp2_with fail
  refine (HC3.out _ HTB.out).mono ?_
  rintro e w5 ⟨rfl, hg5⟩
  have HB1 := Lib.hid hg5.below
  clear hg5
  go_upto_region 6 with fail
  go_cut [29] from 30 to 46 (fun q wx => q = .bool (!(ok && wholeB a)) ∧ w5 = wx)
  case first =>
    cases ok with
    | false =>
      go_wp2
      go_meet
      exact ⟨rfl, rfl⟩
    | true =>
      obtain ⟨da, hda⟩ : ∃ d, digsB a = d := ⟨_, rfl⟩
      have HD := Lib.hid hda
      cases da with
      | false =>
        have HW := Lib.hid (whole_no HD.out)
        clear hda
        go_wp2_with fail
        refine (HDA.out _).mono ?_
        rintro e w1 ⟨rfl, rfl⟩
        rw [HD.out]
        go_wp2
        go_meet
        exact ⟨by rw [HW.out]; rfl, rfl⟩
      | true =>
        clear hda
        by_cases h1 : (1 : Int) < (a.length : Int)
        · have hix0 : ∀ w, (Instr.index 9 (.string ⟨a.toArray⟩) (.int .i64 0)).run Tryz.prog w = .ok (.int .u8 (byteAt ⟨a.toArray⟩ 0)) w := run_at (P := Tryz.prog) 9 Tryz.underlying9 ⟨a.toArray⟩ 0 (by rw [size_bytes]; omega)
          obtain ⟨b0, hb0, hc0⟩ := byte_some (s := ⟨a.toArray⟩) (k := 0) (by rw [size_bytes]; omega)
          generalize byteAt ⟨a.toArray⟩ 0 = c0 at *
          have HW := Lib.hid (whole_two HD.out (by omega) hb0)
          have HC0 := Lib.hid hc0
          clear hb0 hc0
          by_cases h48 : c0 = 48
          · have b48 : (c0 == 48) = true := beq_iff_eq.2 h48
            have HW2 : Hid (wholeB a = false) := Lib.hid (by rw [HW.out]; exact decide_eq_false (by have := HC0.out; omega))
            clear h48
            go_wp2_with fail
            refine (HDA.out _).mono ?_
            rintro e w1 ⟨rfl, rfl⟩
            rw [HD.out]
            go_wp2
            go_meet
            exact ⟨by rw [HW2.out]; rfl, rfl⟩
          · have b48 : (c0 == 48) = false := beq_eq_false_iff_ne.2 h48
            have HW2 : Hid (wholeB a = true) := Lib.hid (by rw [HW.out]; exact decide_eq_true (by have := HC0.out; omega))
            clear h48
            go_wp2_with fail
            refine (HDA.out _).mono ?_
            rintro e w1 ⟨rfl, rfl⟩
            rw [HD.out]
            go_wp2
            go_meet
            exact ⟨by rw [HW2.out]; rfl, rfl⟩
        · have HW := Lib.hid (whole_one HD.out (by omega))
          go_wp2_with fail
          refine (HDA.out _).mono ?_
          rintro e w1 ⟨rfl, rfl⟩
          rw [HD.out]
          go_wp2
          go_meet
          exact ⟨by rw [HW.out]; rfl, rfl⟩
  case rest =>
  obtain ⟨rfl, rfl⟩ := hcut
  by_cases cW : (ok && wholeB a) = false
  · have HF := Lib.hid (rateR_of (l := ls s) (x := (0, 3)) (by rw [HE.out, if_pos cW]))
    rw [cW]
    clear cW
    go_wp2
    go_ret2
    exact ⟨HF.out, HB1.out⟩
  have HCW := Lib.hid cW
  have cW2 : (ok && wholeB a) = true := by simpa using cW
  rw [cW2]
  clear cW cW2
  go_upto_region 8 with fail
  go_cut [47] from 48 to 66 (fun q wx => q = .bool (pt && !partB p) ∧ w5 = wx)
  case first =>
    cases pt with
    | false =>
      go_wp2
      go_meet
      exact ⟨rfl, rfl⟩
    | true =>
      obtain ⟨dp, hdp⟩ : ∃ d, digsB p = d := ⟨_, rfl⟩
      have HD := Lib.hid hdp
      cases dp with
      | false =>
        have HW := Lib.hid (part_no HD.out)
        clear hdp
        go_wp2_with fail
        refine (HDP.out _).mono ?_
        rintro e w1 ⟨rfl, rfl⟩
        rw [HD.out]
        go_wp2
        go_meet
        exact ⟨by rw [HW.out]; rfl, rfl⟩
      | true =>
        clear hdp
        by_cases h4 : (4 : Int) < (p.length : Int)
        · have HW := Lib.hid (part_long (p := p) (by omega))
          go_wp2_with fail
          refine (HDP.out _).mono ?_
          rintro e w1 ⟨rfl, rfl⟩
          rw [HD.out]
          go_wp2
          go_meet
          exact ⟨by rw [HW.out]; rfl, rfl⟩
        · have hpp : 0 < p.length := List.length_pos_iff.2 (digs_all HD.out).2
          have hz1 : IntKind.i64.wrap ((p.length : Int) - 1) = (p.length : Int) - 1 := IntWalk.i64_in _ (by omega)
          have hix0 : ∀ w, (Instr.index 9 (.string ⟨p.toArray⟩) (.int .i64 ((p.length : Int) - 1))).run Tryz.prog w = .ok (.int .u8 (byteAt ⟨p.toArray⟩ (p.length - 1))) w := by
            intro w
            have := run_at (P := Tryz.prog) 9 Tryz.underlying9 ⟨p.toArray⟩ (p.length - 1) (by rw [size_bytes]; omega) w
            rwa [show ((p.length - 1 : Nat) : Int) = (p.length : Int) - 1 by omega] at this
          obtain ⟨b0, hb0, hc0⟩ := byte_some (s := ⟨p.toArray⟩) (k := p.length - 1) (by rw [size_bytes]; omega)
          generalize byteAt ⟨p.toArray⟩ (p.length - 1) = c0 at *
          have HW := Lib.hid (part_at HD.out (by omega) hb0)
          have HC0 := Lib.hid hc0
          clear hb0 hc0
          by_cases h48 : c0 = 48
          · have b48 : (c0 == 48) = true := beq_iff_eq.2 h48
            have HW2 : Hid (partB p = false) := Lib.hid (by rw [HW.out]; exact decide_eq_false (by have := HC0.out; omega))
            clear h48
            go_wp2_with fail
            refine (HDP.out _).mono ?_
            rintro e w1 ⟨rfl, rfl⟩
            rw [HD.out]
            go_wp2
            go_meet
            exact ⟨by rw [HW2.out]; rfl, rfl⟩
          · have b48 : (c0 == 48) = false := beq_eq_false_iff_ne.2 h48
            have HW2 : Hid (partB p = true) := Lib.hid (by rw [HW.out]; exact decide_eq_true (by have := HC0.out; omega))
            clear h48
            go_wp2_with fail
            refine (HDP.out _).mono ?_
            rintro e w1 ⟨rfl, rfl⟩
            rw [HD.out]
            go_wp2
            go_meet
            exact ⟨by rw [HW2.out, show decide ((4 : Int) < (p.length : Int)) = false from decide_eq_false (by omega)]; rfl, rfl⟩
  case rest =>
  obtain ⟨rfl, rfl⟩ := hcut
  by_cases cP : (pt && !partB p) = true
  · have HF := Lib.hid (rateR_of (l := ls s) (x := (0, 3)) (by rw [HE.out, if_neg HCW.out, if_pos cP]))
    rw [cP]
    clear cP
    go_wp2
    go_ret2
    exact ⟨HF.out, HB1.out⟩
  have HCP := Lib.hid cP
  have cP2 : (pt && !partB p) = false := by simpa using cP
  have HPD := Lib.hid (part_dig HQ.out cP2)
  rw [cP2]
  clear cP cP2
  go_upto_region 10 with fail
  go_cut [67] from 68 to 76 (fun q wx => q = .bool (neg && a == [48] && !pt) ∧ w5 = wx)
  case first =>
    have ha48 : (a == [48]) = (a == [48]) := rfl
    cases neg with
    | false =>
      go_wp2
      go_meet
      exact ⟨rfl, rfl⟩
    | true =>
      by_cases h48 : a = [48]
      · have b48 : (a == [48]) = true := beq_iff_eq.2 h48
        have HX := Lib.hid b48
        clear h48
        go_wp2
        go_meet
        exact ⟨by rw [HX.out]; rfl, rfl⟩
      · have b48 : (a == [48]) = false := beq_eq_false_iff_ne.2 h48
        have HX := Lib.hid b48
        clear h48
        go_wp2
        go_meet
        exact ⟨by rw [HX.out]; rfl, rfl⟩
  case rest =>
  obtain ⟨rfl, rfl⟩ := hcut
  by_cases cZ : (neg && a == [48] && !pt) = true
  · have HF := Lib.hid (rateR_of (l := ls s) (x := (0, 3)) (by rw [HE.out, if_neg HCW.out, if_neg HCP.out, if_pos cZ]))
    rw [cZ]
    clear cZ
    go_wp2
    go_ret2
    exact ⟨HF.out, HB1.out⟩
  have HCZ := Lib.hid cZ
  have cZ2 : (neg && a == [48] && !pt) = false := by simpa using cZ
  rw [cZ2]
  clear cZ cZ2
  have HN := Lib.hid (rate_num (a := a) HPD.out)
  have zc : ((⟨p.toArray⟩ : ByteArray) ++ ⟨#[48, 48, 48, 48]⟩).size = p.length + 4 := by
    rw [show (⟨#[48, 48, 48, 48]⟩ : ByteArray) = ⟨[48, 48, 48, 48].toArray⟩ from rfl, bytes_app, size_bytes]; simp
  have HL4 : Hid (ls (((⟨p.toArray⟩ : ByteArray) ++ ⟨#[48, 48, 48, 48]⟩).extract 0 4) = (p ++ [48, 48, 48, 48]).take 4) := Lib.hid (by
    rw [show (⟨#[48, 48, 48, 48]⟩ : ByteArray) = ⟨[48, 48, 48, 48].toArray⟩ from rfl, bytes_app]
    exact Lib.extract_from_zero _ 4)
  have HVP : Hid (∀ W, Calls Tryz.prog 203 #[.string (((⟨p.toArray⟩ : ByteArray) ++ ⟨#[48, 48, 48, 48]⟩).extract 0 4), .int .i64 10000] W fun e w' => e = .returned (.int .i64 (satN ((p ++ [48, 48, 48, 48]).take 4) 10000)) ∧ W = w') := Lib.hid (fun W => by
    have := rt_value (((⟨p.toArray⟩ : ByteArray) ++ ⟨#[48, 48, 48, 48]⟩).extract 0 4) 10000 W (by rw [ByteArray.size_extract]; omega) (by omega) (by rw [HL4.out]; exact HPD.out)
    rw [HL4.out] at this
    exact this)
  have HVA : Hid (∀ W, Calls Tryz.prog 203 #[.string ⟨a.toArray⟩, .int .i64 100000] W fun e w' => e = .returned (.int .i64 (satN a 100000)) ∧ W = w') := Lib.hid (fun W => rt_value ⟨a.toArray⟩ 100000 W (by rw [size_bytes]; omega) (by omega) (by
    have h1 : wholeB a = true := by
      have := HCW.out
      cases ok with
      | false => exact absurd rfl this
      | true => simpa using this
    unfold wholeB at h1
    rw [Bool.and_eq_true] at h1
    exact h1.1))
  have b1 : satN a 100000 ≤ 100001 := Nat.min_le_right _ _
  have b2 : satN ((p ++ [48, 48, 48, 48]).take 4) 10000 ≤ 10001 := Nat.min_le_right _ _
  generalize satN a 100000 = n1 at *
  generalize satN ((p ++ [48, 48, 48, 48]).take 4) 10000 = n2 at *
  go_wp2_with fail
  refine wp_region_quiet_grown (by kernel_rfl) (by kernel_rfl) ?_
  repeat (go_big_quiet_step (first | (with_reducible refine grown_same (HVA.out _)) | (with_reducible refine grown_same (HVP.out _))))
  refine wpQuiet_nil ?_
  intro w6 hw6
  obtain ⟨gp, hgp⟩ := hw6
  have HB2 : Hid (Below w.heap.size w w6) := Lib.hid (bTrans HB1.out (by rw [hgp]; exact (Grows.of_grow w5 gp.n gp.os).below))
  clear hgp gp
  by_cases hbig : 1000000000 < (n1 : Int) * 10000 + (n2 : Int)
  · have HF := Lib.hid (rateR_of (l := ls s) (x := (0, 2)) (by rw [HE.out, if_neg HCW.out, if_neg HCP.out, if_neg HCZ.out, if_pos (HN.out.1.1 (by omega))]))
    go_wp2
    go_ret2
    exact ⟨HF.out, HB2.out⟩
  · have hnb : ¬ 1000000000 < rateN a p := fun h => hbig (by have := HN.out.1.2 h; omega)
    have HV : Hid (n1 * 10000 + n2 = rateN a p) := Lib.hid (HN.out.2 (by omega))
    have HF := Lib.hid (rateR_of (l := ls s) (x := (signed neg (rateN a p), 0)) (by rw [HE.out, if_neg HCW.out, if_neg HCP.out, if_neg HCZ.out, if_neg hnb]))
    rw [← HV.out] at HF
    clear hnb
    cases neg with
    | true =>
      go_wp2
      go_ret2
      exact ⟨HF.out, HB2.out⟩
    | false =>
      go_wp2
      go_ret2
      exact ⟨HF.out, HB2.out⟩
end Go.Proofs.YtheaacliomfkoaaGreatDoor
