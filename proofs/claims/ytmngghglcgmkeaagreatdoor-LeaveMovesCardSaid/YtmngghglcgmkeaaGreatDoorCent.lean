/- Merged from: Cen3 Cen4 Cen5. -/
import Derived.Test.YtmngghglcgmkeaaGreatDoorRate
import Derived.Test.YtmngghglcgmkeaaGreatDoorTxts
import Derived.Lib.IndexBytes
/- Amounts: the program's reading of a text. -/
namespace Go.Proofs.YtmngghglcgmkeaaGreatDoor
open Go.RowKit

/-- What a reading of an amount answers. -/
def centsR (l : List UInt8) : Value := match centsO l with | some c => .tuple #[.int .i64 c, .int .i64 0] | none => .tuple #[.int .i64 0, .int .i64 3]
theorem centsR_some {l : List UInt8} {c : Int} (h : centsO l = some c) : Ending.returned (.tuple #[.int .i64 c, .int .i64 0]) = .returned (centsR l) := by unfold centsR; rw [h]
theorem centsR_none {l : List UInt8} (h : centsO l = none) : Ending.returned (.tuple #[.int .i64 0, .int .i64 3]) = .returned (centsR l) := by unfold centsR; rw [h]
theorem num_filter_more {l : List UInt8} {k : Nat} {b : UInt8} (hb : l[k]? = some b) : numL 0 ((l.take (k + 1)).filter digC) = if digC b = true then 10 * numL 0 ((l.take k).filter digC) + (b.toNat - 48) else numL 0 ((l.take k).filter digC) := by
  rw [List.take_add_one, hb, List.filter_append, numL_append]
  by_cases h : digC b = true
  · rw [if_pos h]; simp [h]; rfl
  · rw [if_neg h]; simp [h]; rfl
theorem num_filter_le (l : List UInt8) (k : Nat) : numL 0 ((l.take k).filter digC) ≤ numL 0 (l.filter digC) := by
  conv => rhs; rw [← List.take_append_drop k l, List.filter_append, numL_append]
  exact numL_ge _ _
theorem centC_no {k : Nat} {b : UInt8} {c : Int} (hcb : c = (b.toNat : Int)) (h0 : ¬ (k = 0 ∧ c = 45)) (h46 : ¬ c = 46) (h : c < 48 ∨ 57 < c) : ¬ centC k b := by
  rintro (h1 | h1 | ⟨h1, h2⟩)
  · rw [digC_iff] at h1; omega
  · subst h1; exact h46 hcb
  · subst h2; exact h0 ⟨h1, hcb⟩
theorem cents_none_byte {l : List UInt8} {k : Nat} {b : UInt8} (hb : l[k]? = some b) (h : ¬ centC k b) : centsO l = none := by
  match hc : centsO l with
  | none => rfl
  | some c =>
    obtain ⟨neg, a, d1, d2, h1, _⟩ := centsO_is hc
    exact absurd (h1.bytes hb) h
theorem cents_none_big {l : List UInt8} {k : Nat} (h : 1125899906842624 < numL 0 ((l.take k).filter digC)) : centsO l = none := by
  match hc : centsO l with
  | none => rfl
  | some c =>
    obtain ⟨neg, a, d1, d2, h1, _⟩ := centsO_is hc
    have := num_filter_le l k
    have := h1.num
    have := h1.most
    omega
theorem cents_end {l : List UInt8} (h0 : l ≠ []) : centsO l = if textC (signed (l.head? == some 45) (numL 0 (l.filter digC))) = l then some (signed (l.head? == some 45) (numL 0 (l.filter digC))) else none := by
  by_cases ht : textC (signed (l.head? == some 45) (numL 0 (l.filter digC))) = l
  · rw [if_pos ht]
    have hm : (signed (l.head? == some 45) (numL 0 (l.filter digC))).natAbs ≤ 1125899906842624 := by
      by_cases h : (signed (l.head? == some 45) (numL 0 (l.filter digC))).natAbs ≤ 1125899906842624
      · exact h
      · have e : textC (signed (l.head? == some 45) (numL 0 (l.filter digC))) = [] := by unfold textC; rw [if_neg h]
        rw [e] at ht
        exact absurd ht.symm h0
    have := centsO_text hm
    rw [ht] at this
    exact this
  · rw [if_neg ht]
    match hc : centsO l with
    | none => rfl
    | some c =>
      obtain ⟨neg, a, d1, d2, h1, rfl⟩ := centsO_is hc
      have := (text_centsO hc).2
      rw [← h1.head, ← h1.num] at this
      exact absurd this ht

set_option maxHeartbeats 4000000 in
theorem ce_Parse (s : ByteArray) (w : World) (hs : s.size ≤ 1000000) : Calls Tryz.prog 134 #[.string s] w fun e w' => e = .returned (centsR (ls s)) ∧ w = w' := by
  go_enter Tryz.func134, Tryz.ntmps134
  go_wp2
  go_loop [4, 5, 6, 7, 10] (fun cv bv _ _ iv => ∃ k n : Nat, k ≤ s.size ∧ iv = .int .i64 k ∧ cv = .int .i64 n ∧ bv = .bool (decide (0 < k ∧ (ls s).head? = some 45)) ∧ n ≤ 20000000000000000 ∧ Hid (n = numL 0 (((ls s).take k).filter digC))) (fun _ _ _ _ iv => s.size - (intOf iv).toNat)
  case atStart => exact ⟨0, 0, Nat.zero_le _, rfl, rfl, rfl, by omega, Lib.hid rfl⟩
  case round =>
    obtain ⟨k, n, hk, rfl, rfl, rfl, hn, HN⟩ := hrel
    by_cases hlt : k < s.size
    · have hix := run_at (P := Tryz.prog) 9 Tryz.underlying9 s k hlt
      have hbd := byteAt_bd s k
      obtain ⟨b, hb, hcb⟩ := byte_some hlt
      have HB := Lib.hid hb
      have HC := Lib.hid hcb
      clear hb hcb
      have HM := Lib.hid (num_filter_more HB.out)
      generalize byteAt s k = c at *
      by_cases hm : k = 0 ∧ c = 45
      · have hk0 : ((k : Int) == 0) = true := beq_iff_eq.2 (by omega)
        have hc45 : (c == 45) = true := beq_iff_eq.2 hm.2
        have HH : Hid ((ls s).head? = some 45) := Lib.hid (by
          have h1 := HB.out
          rw [hm.1] at h1
          rw [List.head?_eq_getElem?, h1]
          have h2 := HC.out
          have h45 : (45 : UInt8).toNat = 45 := rfl
          congr 1; exact UInt8.toNat_inj.1 (by omega))
        have HN2 : Hid (n = numL 0 (((ls s).take (k + 1)).filter digC)) := Lib.hid (by rw [HM.out, if_neg (by rw [digC_iff]; have := HC.out; omega)]; exact HN.out)
        have HT : Hid (decide (0 < k + 1 ∧ (ls s).head? = some 45) = true) := Lib.hid (decide_eq_true ⟨by omega, HH.out⟩)
        clear hm
        go_wp2
        go_round
        case rel => exact ⟨k + 1, n, by omega, by go_num, rfl, by rw [HT.out], hn, HN2⟩
        case measure => simp [intOf]; omega
      have HD : Hid (decide (0 < k + 1 ∧ (ls s).head? = some 45) = decide (0 < k ∧ (ls s).head? = some 45)) := Lib.hid (by
        apply decide_eq_decide.2
        constructor
        · rintro ⟨_, h⟩
          refine ⟨?_, h⟩
          rcases Nat.eq_zero_or_pos k with h0 | h0
          · have h1 := HB.out
            rw [h0] at h1
            rw [List.head?_eq_getElem?, h1] at h
            have := Option.some.inj h
            subst this
            exact absurd ⟨h0, HC.out⟩ hm
          · exact h0
        · rintro ⟨_, h⟩; exact ⟨by omega, h⟩)
      have HMM := Lib.hid hm
      clear hm
      by_cases k0 : k = 0
      · have hk0 : ((k : Int) == 0) = true := beq_iff_eq.2 (by omega)
        have hc45 : (c == 45) = false := beq_eq_false_iff_ne.2 (fun e => HMM.out ⟨k0, e⟩)
        clear k0
        by_cases h46 : c = 46
        · have b46 : (c == 46) = true := beq_iff_eq.2 h46
          have HN2 : Hid (n = numL 0 (((ls s).take (k + 1)).filter digC)) := Lib.hid (by rw [HM.out, if_neg (by rw [digC_iff]; have := HC.out; omega)]; exact HN.out)
          clear h46
          go_wp2
          go_round
          case rel => exact ⟨k + 1, n, by omega, by go_num, rfl, by rw [HD.out], hn, HN2⟩
          case measure => simp [intOf]; omega
        have b46 : (c == 46) = false := beq_eq_false_iff_ne.2 h46
        by_cases hx : c < 48
        · have HF := Lib.hid (centsR_none (cents_none_byte HB.out (centC_no HC.out HMM.out h46 (by omega))))
          clear h46
          go_wp2
          go_ret2
          exact ⟨HF.out, rfl⟩
        have hx1 := hx
        clear hx
        by_cases hx : 57 < c
        · have HF := Lib.hid (centsR_none (cents_none_byte HB.out (centC_no HC.out HMM.out h46 (by omega))))
          clear h46
          go_wp2
          go_ret2
          exact ⟨HF.out, rfl⟩
        have hx2 := hx
        clear hx
        by_cases hbig : 1125899906842624 < (n : Int)
        · have HF := Lib.hid (centsR_none (cents_none_big (k := k) (by rw [← HN.out]; omega)))
          clear h46
          go_wp2
          go_ret2
          exact ⟨HF.out, rfl⟩
        have HN2 : Hid (10 * n + (c.toNat - 48) = numL 0 (((ls s).take (k + 1)).filter digC)) := Lib.hid (by rw [HM.out, if_pos (by rw [digC_iff]; have := HC.out; omega), ← HN.out]; have := HC.out; omega)
        clear h46
        go_wp2
        go_round
        case rel => exact ⟨k + 1, 10 * n + (c.toNat - 48), by omega, by go_num, by go_num, by rw [HD.out], by omega, HN2⟩
        case measure => simp [intOf]; omega
      · have hk0 : ((k : Int) == 0) = false := beq_eq_false_iff_ne.2 (by omega)
        clear k0
        by_cases h46 : c = 46
        · have b46 : (c == 46) = true := beq_iff_eq.2 h46
          have HN2 : Hid (n = numL 0 (((ls s).take (k + 1)).filter digC)) := Lib.hid (by rw [HM.out, if_neg (by rw [digC_iff]; have := HC.out; omega)]; exact HN.out)
          clear h46
          go_wp2
          go_round
          case rel => exact ⟨k + 1, n, by omega, by go_num, rfl, by rw [HD.out], hn, HN2⟩
          case measure => simp [intOf]; omega
        have b46 : (c == 46) = false := beq_eq_false_iff_ne.2 h46
        by_cases hx : c < 48
        · have HF := Lib.hid (centsR_none (cents_none_byte HB.out (centC_no HC.out HMM.out h46 (by omega))))
          clear h46
          go_wp2
          go_ret2
          exact ⟨HF.out, rfl⟩
        have hx1 := hx
        clear hx
        by_cases hx : 57 < c
        · have HF := Lib.hid (centsR_none (cents_none_byte HB.out (centC_no HC.out HMM.out h46 (by omega))))
          clear h46
          go_wp2
          go_ret2
          exact ⟨HF.out, rfl⟩
        have hx2 := hx
        clear hx
        by_cases hbig : 1125899906842624 < (n : Int)
        · have HF := Lib.hid (centsR_none (cents_none_big (k := k) (by rw [← HN.out]; omega)))
          clear h46
          go_wp2
          go_ret2
          exact ⟨HF.out, rfl⟩
        have HN2 : Hid (10 * n + (c.toNat - 48) = numL 0 (((ls s).take (k + 1)).filter digC)) := Lib.hid (by rw [HM.out, if_pos (by rw [digC_iff]; have := HC.out; omega), ← HN.out]; have := HC.out; omega)
        clear h46
        go_wp2
        go_round
        case rel => exact ⟨k + 1, 10 * n + (c.toNat - 48), by omega, by go_num, by go_num, by rw [HD.out], by omega, HN2⟩
        case measure => simp [intOf]; omega
    · obtain rfl : k = s.size := by omega
      have HN2 : Hid (n = numL 0 ((ls s).filter digC)) := Lib.hid (by have := HN.out; rwa [List.take_of_length_le (by rw [ls_len]; omega)] at this)
      by_cases h0 : s.size = 0
      · have he : s.toList.isEmpty = true := by rw [isEmpty_ls, (nil_iff s).2 h0]; rfl
        have HF := Lib.hid (centsR_none (l := ls s) (by rw [(nil_iff s).2 h0]; rfl))
        have HD : Hid (decide (0 < s.size ∧ (ls s).head? = some 45) = false) := Lib.hid (decide_eq_false (by omega))
        rw [HD.out]
        clear h0
        go_wp2
        go_ret2
        exact ⟨HF.out, rfl⟩
      have he : s.toList.isEmpty = false := by rw [isEmpty_ls]; simpa using fun h => h0 ((nil_iff s).1 h)
      have HE := Lib.hid (cents_end (l := ls s) (fun h => h0 ((nil_iff s).1 h)))
      rw [← HN2.out] at HE
      have HTX := Lib.hid (fun c W => ce_Text c W)
      by_cases hh : (ls s).head? = some 45
      · have HD : Hid (decide (0 < s.size ∧ (ls s).head? = some 45) = true) := Lib.hid (decide_eq_true ⟨by omega, hh⟩)
        have HE2 : Hid (centsO (ls s) = if textC (-(n : Int)) = ls s then some (-(n : Int)) else none) := Lib.hid (by have := HE.out; rw [show ((ls s).head? == some 45) = true by rw [hh]; rfl] at this; exact this)
        rw [HD.out]
        clear hh h0
        by_cases ht : textC (-(n : Int)) = ls s
        · have bt : (textC (-(n : Int)) == s.toList) = true := by rw [toList_ls, ht]; exact beq_self_eq_true _
          have HF := Lib.hid (centsR_some (l := ls s) (c := -(n : Int)) (by rw [HE2.out, if_pos ht]))
          clear ht
          go_wp2_with fail
          refine (HTX.out _ _).mono ?_
          rintro e w1 ⟨rfl, rfl⟩
          go_wp2
          go_ret2
          exact ⟨HF.out, rfl⟩
        · have bt : (textC (-(n : Int)) == s.toList) = false := by rw [toList_ls]; exact beq_eq_false_iff_ne.2 ht
          have HF := Lib.hid (centsR_none (l := ls s) (by rw [HE2.out, if_neg ht]))
          clear ht
          go_wp2_with fail
          refine (HTX.out _ _).mono ?_
          rintro e w1 ⟨rfl, rfl⟩
          go_wp2
          go_ret2
          exact ⟨HF.out, rfl⟩
      · have HD : Hid (decide (0 < s.size ∧ (ls s).head? = some 45) = false) := Lib.hid (decide_eq_false (fun h => hh h.2))
        have HE2 : Hid (centsO (ls s) = if textC ((n : Int)) = ls s then some ((n : Int)) else none) := Lib.hid (by have := HE.out; rw [show ((ls s).head? == some 45) = false by simpa using hh] at this; exact this)
        rw [HD.out]
        clear hh h0
        by_cases ht : textC ((n : Int)) = ls s
        · have bt : (textC ((n : Int)) == s.toList) = true := by rw [toList_ls, ht]; exact beq_self_eq_true _
          have HF := Lib.hid (centsR_some (l := ls s) (c := (n : Int)) (by rw [HE2.out, if_pos ht]))
          clear ht
          go_wp2_with fail
          refine (HTX.out _ _).mono ?_
          rintro e w1 ⟨rfl, rfl⟩
          go_wp2
          go_ret2
          exact ⟨HF.out, rfl⟩
        · have bt : (textC ((n : Int)) == s.toList) = false := by rw [toList_ls]; exact beq_eq_false_iff_ne.2 ht
          have HF := Lib.hid (centsR_none (l := ls s) (by rw [HE2.out, if_neg ht]))
          clear ht
          go_wp2_with fail
          refine (HTX.out _ _).mono ?_
          rintro e w1 ⟨rfl, rfl⟩
          go_wp2
          go_ret2
          exact ⟨HF.out, rfl⟩
end Go.Proofs.YtmngghglcgmkeaaGreatDoor

/- Amounts: the reference's reading of a text. -/
namespace Go.Proofs.YtmngghglcgmkeaaGreatDoor
open Go.RowKit

/-- What the reference's reading of an amount answers. -/
def centsR1 (l : List UInt8) : Value := match centsO l with | some c => .tuple #[.int .i64 c, .bool true] | none => .tuple #[.int .i64 0, .bool false]
theorem centsR1_some {l : List UInt8} {c : Int} (h : centsO l = some c) : Ending.returned (.tuple #[.int .i64 c, .bool true]) = .returned (centsR1 l) := by unfold centsR1; rw [h]
theorem centsR1_none {l : List UInt8} (h : centsO l = none) : Ending.returned (.tuple #[.int .i64 0, .bool false]) = .returned (centsR1 l) := by unfold centsR1; rw [h]

/-- The text behind its sign. -/
structure Bare (l : List UInt8) (neg : Bool) (r : List UInt8) : Prop where
  hn : (l.head? == some 45) = neg
  eq : (if neg = true then l.drop 1 else l) = r
theorem bare_none_len {l r : List UInt8} {neg : Bool} (h : Bare l neg r) (hl : r.length < 4 ∨ 17 < r.length) : centsO l = none := by
  unfold centsO
  simp only
  rw [h.hn, h.eq, if_neg (by omega)]
theorem bare_none_dot {l r : List UInt8} {neg : Bool} (h : Bare l neg r) (hl : r[r.length - 3]? ≠ some 46) : centsO l = none := by
  unfold centsO
  simp only
  rw [h.hn, h.eq]
  split
  · rw [if_neg (fun hh => hl hh.1)]
  · rfl
theorem bare_none_dig {l r : List UInt8} {neg : Bool} (h : Bare l neg r) {j : Nat} {b : UInt8} (hb : r[j]? = some b) (hj : j ≠ r.length - 3) (hd : digC b = false) : centsO l = none := by
  unfold centsO
  simp only
  rw [h.hn, h.eq]
  have hlt := (List.getElem?_eq_some_iff.1 hb).1
  split
  · rw [if_neg]
    rintro ⟨_, h2, h3, _⟩
    by_cases hjj : j < r.length - 3
    · have : (r.take (r.length - 3))[j]? = some b := by rw [List.getElem?_take, if_pos hjj]; exact hb
      have := List.all_eq_true.1 h2 b (List.mem_of_getElem? this)
      rw [hd] at this; cases this
    · have : (r.drop (r.length - 2))[j - (r.length - 2)]? = some b := by rw [List.getElem?_drop, show r.length - 2 + (j - (r.length - 2)) = j by omega]; exact hb
      have := List.all_eq_true.1 h3 b (List.mem_of_getElem? this)
      rw [hd] at this; cases this
  · rfl
theorem bare_end {l r : List UInt8} {neg : Bool} (h : Bare l neg r) (h4 : 4 ≤ r.length) (h17 : r.length ≤ 17) (h46 : r[r.length - 3]? = some 46) (hd : ∀ (j : Nat) b, r[j]? = some b → j ≠ r.length - 3 → digC b = true) :
    centsO l = if ¬ (r.head? = some 48 ∧ 4 < r.length) ∧ numL 0 (r.filter digC) ≤ 1125899906842624 ∧ ¬ (neg = true ∧ numL 0 (r.filter digC) = 0) then some (signed neg (numL 0 (r.filter digC))) else none := by
  have ha : (r.take (r.length - 3)).all digC = true := by
    rw [List.all_eq_true]
    intro x hx
    obtain ⟨j, hj⟩ := List.getElem?_of_mem hx
    rw [List.getElem?_take] at hj
    split at hj
    · exact hd j x hj (by omega)
    · cases hj
  have hc : (r.drop (r.length - 2)).all digC = true := by
    rw [List.all_eq_true]
    intro x hx
    obtain ⟨j, hj⟩ := List.getElem?_of_mem hx
    rw [List.getElem?_drop] at hj
    exact hd _ x hj (by omega)
  have hlt : r.length - 3 < r.length := by omega
  have hsplit : r = r.take (r.length - 3) ++ 46 :: r.drop (r.length - 2) := by
    conv => lhs; rw [← List.take_append_drop (r.length - 3) r]
    rw [List.drop_eq_getElem_cons hlt, show r.length - 3 + 1 = r.length - 2 by omega]
    have : r[r.length - 3] = 46 := by rw [List.getElem?_eq_getElem hlt] at h46; exact Option.some.inj h46
    rw [this]
  have hf : r.filter digC = r.take (r.length - 3) ++ r.drop (r.length - 2) := by
    conv => lhs; rw [hsplit]
    rw [List.filter_append, filter_dig ha, List.filter_cons, if_neg (by decide), filter_dig hc]
  have hn : neat (r.take (r.length - 3)) = true ↔ ¬ (r.head? = some 48 ∧ 4 < r.length) := by
    have hlen : (r.take (r.length - 3)).length = r.length - 3 := by rw [List.length_take]; omega
    match hr : r with
    | [] => simp at h4
    | x :: r' =>
      match hm : (x :: r').take ((x :: r').length - 3) with
      | [] => rw [hm] at hlen; simp at hlen h4; omega
      | y :: t =>
        have hxy : y = x := by
          have := congrArg List.head? hm
          rw [List.head?_take, if_neg (by omega)] at this
          simpa using this.symm
        subst hxy
        rw [hm] at hlen
        unfold neat
        by_cases h48 : y = 48
        · subst h48
          have hl2 : (48 :: r').length = r'.length + 1 := rfl
          have hl3 : ((48 : UInt8) :: t).length = t.length + 1 := rfl
          cases t with
          | nil =>
            have hl4 : ([] : List UInt8).length = 0 := rfl
            simp
            omega
          | cons z t =>
            have hl4 : (z :: t).length = t.length + 1 := rfl
            simp
            omega
        · simp [h48]
  unfold centsO
  simp only
  rw [h.hn, h.eq, if_pos ⟨h4, h17⟩, hf]
  by_cases hh : ¬ (r.head? = some 48 ∧ 4 < r.length) ∧ numL 0 (r.take (r.length - 3) ++ r.drop (r.length - 2)) ≤ 1125899906842624 ∧ ¬ (neg = true ∧ numL 0 (r.take (r.length - 3) ++ r.drop (r.length - 2)) = 0)
  · rw [if_pos hh, if_pos ⟨h46, ha, hc, hn.2 hh.1, hh.2⟩]
    rfl
  · rw [if_neg hh, if_neg (fun k => hh ⟨hn.1 k.2.2.2.1, k.2.2.2.2⟩)]
theorem num_filter_lt {l : List UInt8} {k : Nat} (hk : k ≤ 16) : numL 0 ((l.take k).filter digC) < 10000000000000000 := by
  have h1 := numL_lt ((l.take k).filter digC) 0 (by rw [List.all_eq_true]; intro x hx; exact (List.mem_filter.1 hx).2)
  have h2 : ((l.take k).filter digC).length ≤ 16 := Nat.le_trans (List.length_filter_le _ _) (by rw [List.length_take]; omega)
  have h3 : (10 : Nat) ^ ((l.take k).filter digC).length ≤ 10 ^ 16 := Nat.pow_le_pow_right (by decide) h2
  have h4 : (10 : Nat) ^ 16 = 10000000000000000 := by decide
  omega
end Go.Proofs.YtmngghglcgmkeaaGreatDoor

/- Amounts: the reference's reading of a text, walked; may a text be an amount's? -/
namespace Go.Proofs.YtmngghglcgmkeaaGreatDoor
open Go.RowKit

theorem ls_tail (s : ByteArray) : ls (s.extract 1 s.size) = (ls s).drop 1 := Lib.extract_to_end s 1

/-- May a text be an amount's? -/
theorem fc_amount (s : ByteArray) (w : World) (hs : s.size ≤ 1000000) : Calls Tryz.prog 116 #[.string s] w fun e w' => e = .returned (.bool (amountB (ls s))) ∧ w = w' := by
  have HP := Lib.hid (fun W => ce_Parse s W hs)
  go_enter Tryz.func116, Tryz.ntmps116
  go_wp2_with fail
  refine (HP.out _).mono ?_
  rintro e w1 ⟨rfl, rfl⟩
  unfold centsR
  match hc : centsO (ls s) with
  | none =>
    have HF : Hid (amountB (ls s) = false) := Lib.hid (by unfold amountB; rw [hc])
    go_wp2
    go_ret
    exact ⟨ret_b HF.out.symm, rfl⟩
  | some c =>
    have HF : Hid (amountB (ls s) = decide (0 ≤ c)) := Lib.hid (by unfold amountB; rw [hc])
    go_wp2
    go_ret
    exact ⟨ret_b HF.out.symm, rfl⟩
end Go.Proofs.YtmngghglcgmkeaaGreatDoor
