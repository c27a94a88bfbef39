/- Out of: Cent Wght. -/
import Derived.Test.YtheaacliomfkoaaGreatDoorZfa
import Derived.Test.YtheaacliomfkoaaGreatDoorZfb
import Derived.Test.YtheaacliomfkoaaGreatDoorZfc
import Derived.Test.YtheaacliomfkoaaGreatDoorZfd
import Derived.Deep.Cut
import Derived.Deep.CutRange
import Derived.Lib.IndexBytes
import Derived.Maps.OwnOps
import Derived.Maps.OwnSet
/- Merged from: Cen3 Cen4 Cen5. -/
/- Amounts: the program's reading of a text. -/
namespace Go.Proofs.YtheaacliomfkoaaGreatDoor
open Go.RowKit

/-- What a reading of an amount answers. -/
def centsR (l : List UInt8) : Value := match centsO l with | some c => .tuple #[.int .i64 c, .int .i64 0] | none => .tuple #[.int .i64 0, .int .i64 3]
theorem centsR_some {l : List UInt8} {c : Int} (h : centsO l = some c) : Ending.returned (.tuple #[.int .i64 c, .int .i64 0]) = .returned (centsR l) := by unfold centsR; rw [h]
theorem centsR_none {l : List UInt8} (h : centsO l = none) : Ending.returned (.tuple #[.int .i64 0, .int .i64 3]) = .returned (centsR l) := by unfold centsR; rw [h]
theorem num_filter_more {l : List UInt8} {k : Nat} {b : UInt8} (hb : l[k]? = some b) : numL 0 ((l.take (k + 1)).filter digC) = if digC b = true then 10 * numL 0 ((l.take k).filter digC) + (b.toNat - 48) else numL 0 ((l.take k).filter digC) := by
  rw [List.take_add_one, hb, List.filter_append, numL_append]
  by_cases h : digC b = true
  · rw [if_pos h]; simp [h]; rfl
  · rw [if_neg h]; simp [h]; rfl
theorem num_filter_le (l : List UInt8) (k : Nat) : numL 0 ((l.take k).filter digC) ≤ numL 0 (l.filter digC) := by
  conv => rhs; rw [← List.take_append_drop k l, List.filter_append, numL_append]
  exact numL_ge _ _
theorem centC_no {k : Nat} {b : UInt8} {c : Int} (hcb : c = (b.toNat : Int)) (h0 : ¬ (k = 0 ∧ c = 45)) (h46 : ¬ c = 46) (h : c < 48 ∨ 57 < c) : ¬ centC k b := by
  rintro (h1 | h1 | ⟨h1, h2⟩)
  · rw [digC_iff] at h1; omega
  · subst h1; exact h46 hcb
  · subst h2; exact h0 ⟨h1, hcb⟩
theorem cents_none_byte {l : List UInt8} {k : Nat} {b : UInt8} (hb : l[k]? = some b) (h : ¬ centC k b) : centsO l = none := by
  match hc : centsO l with
  | none => rfl
  | some c =>
    obtain ⟨neg, a, d1, d2, h1, _⟩ := centsO_is hc
    exact absurd (h1.bytes hb) h
theorem cents_none_big {l : List UInt8} {k : Nat} (h : 1125899906842624 < numL 0 ((l.take k).filter digC)) : centsO l = none := by
  match hc : centsO l with
  | none => rfl
  | some c =>
    obtain ⟨neg, a, d1, d2, h1, _⟩ := centsO_is hc
    have := num_filter_le l k
    have := h1.num
    have := h1.most
    omega
theorem cents_end {l : List UInt8} (h0 : l ≠ []) : centsO l = if textC (signed (l.head? == some 45) (numL 0 (l.filter digC))) = l then some (signed (l.head? == some 45) (numL 0 (l.filter digC))) else none := by
  by_cases ht : textC (signed (l.head? == some 45) (numL 0 (l.filter digC))) = l
  · rw [if_pos ht]
    have hm : (signed (l.head? == some 45) (numL 0 (l.filter digC))).natAbs ≤ 1125899906842624 := by
      by_cases h : (signed (l.head? == some 45) (numL 0 (l.filter digC))).natAbs ≤ 1125899906842624
      · exact h
      · have e : textC (signed (l.head? == some 45) (numL 0 (l.filter digC))) = [] := by unfold textC; rw [if_neg h]
        rw [e] at ht
        exact absurd ht.symm h0
    have := centsO_text hm
    rw [ht] at this
    exact this
  · rw [if_neg ht]
    match hc : centsO l with
    | none => rfl
    | some c =>
      obtain ⟨neg, a, d1, d2, h1, rfl⟩ := centsO_is hc
      have := (text_centsO hc).2
      rw [← h1.head, ← h1.num] at this
      exact absurd this ht

set_option maxHeartbeats 4000000 in
theorem ce_Parse (s : ByteArray) (w : World) (hs : s.size ≤ 1000000) : Calls Tryz.prog 204 #[.string s] w fun e w' => e = .returned (centsR (ls s)) ∧ w = w' := by
  go_enter Tryz.func204, Tryz.ntmps204
  go_wp2
  go_loop [4, 5, 6, 7, 10] (fun cv bv _ _ iv => ∃ k n : Nat, k ≤ s.size ∧ iv = .int .i64 k ∧ cv = .int .i64 n ∧ bv = .bool (decide (0 < k ∧ (ls s).head? = some 45)) ∧ n ≤ 20000000000000000 ∧ Hid (n = numL 0 (((ls s).take k).filter digC))) (fun _ _ _ _ iv => s.size - (intOf iv).toNat)
  case atStart => exact ⟨0, 0, Nat.zero_le _, rfl, rfl, rfl, by omega, Lib.hid rfl⟩
  case round =>
    obtain ⟨k, n, hk, rfl, rfl, rfl, hn, HN⟩ := hrel
    by_cases hlt : k < s.size
    · have hix := run_at (P := Tryz.prog) 9 Tryz.underlying9 s k hlt
      have hbd := byteAt_bd s k
      obtain ⟨b, hb, hcb⟩ := byte_some hlt
      have HB := Lib.hid hb
      have HC := Lib.hid hcb
      clear hb hcb
      have HM := Lib.hid (num_filter_more HB.out)
      generalize byteAt s k = c at *
      by_cases hm : k = 0 ∧ c = 45
      · have hk0 : ((k : Int) == 0) = true := beq_iff_eq.2 (by omega)
        have hc45 : (c == 45) = true := beq_iff_eq.2 hm.2
        have HH : Hid ((ls s).head? = some 45) := Lib.hid (by
          have h1 := HB.out
          rw [hm.1] at h1
          rw [List.head?_eq_getElem?, h1]
          have h2 := HC.out
          have h45 : (45 : UInt8).toNat = 45 := rfl
          congr 1; exact UInt8.toNat_inj.1 (by omega))
        have HN2 : Hid (n = numL 0 (((ls s).take (k + 1)).filter digC)) := Lib.hid (by rw [HM.out, if_neg (by rw [digC_iff]; have := HC.out; omega)]; exact HN.out)
        have HT : Hid (decide (0 < k + 1 ∧ (ls s).head? = some 45) = true) := Lib.hid (decide_eq_true ⟨by omega, HH.out⟩)
        clear hm
        go_wp2
        go_round
        case rel => exact ⟨k + 1, n, by omega, by go_num, rfl, by rw [HT.out], hn, HN2⟩
        case measure => simp [intOf]; omega
      have HD : Hid (decide (0 < k + 1 ∧ (ls s).head? = some 45) = decide (0 < k ∧ (ls s).head? = some 45)) := Lib.hid (by
        apply decide_eq_decide.2
        constructor
        · rintro ⟨_, h⟩
          refine ⟨?_, h⟩
          rcases Nat.eq_zero_or_pos k with h0 | h0
          · have h1 := HB.out
            rw [h0] at h1
            rw [List.head?_eq_getElem?, h1] at h
            have := Option.some.inj h
            subst this
            exact absurd ⟨h0, HC.out⟩ hm
          · exact h0
        · rintro ⟨_, h⟩; exact ⟨by omega, h⟩)
      have HMM := Lib.hid hm
      clear hm
      by_cases k0 : k = 0
      · have hk0 : ((k : Int) == 0) = true := beq_iff_eq.2 (by omega)
        have hc45 : (c == 45) = false := beq_eq_false_iff_ne.2 (fun e => HMM.out ⟨k0, e⟩)
        clear k0
        by_cases h46 : c = 46
        · have b46 : (c == 46) = true := beq_iff_eq.2 h46
          have HN2 : Hid (n = numL 0 (((ls s).take (k + 1)).filter digC)) := Lib.hid (by rw [HM.out, if_neg (by rw [digC_iff]; have := HC.out; omega)]; exact HN.out)
          clear h46
          go_wp2
          go_round
          case rel => exact ⟨k + 1, n, by omega, by go_num, rfl, by rw [HD.out], hn, HN2⟩
          case measure => simp [intOf]; omega
        have b46 : (c == 46) = false := beq_eq_false_iff_ne.2 h46
        by_cases hx : c < 48
        · have HF := Lib.hid (centsR_none (cents_none_byte HB.out (centC_no HC.out HMM.out h46 (by omega))))
          clear h46
          go_wp2
          go_ret2
          exact ⟨HF.out, rfl⟩
        have hx1 := hx
        clear hx
        by_cases hx : 57 < c
        · have HF := Lib.hid (centsR_none (cents_none_byte HB.out (centC_no HC.out HMM.out h46 (by omega))))
          clear h46
          go_wp2
          go_ret2
          exact ⟨HF.out, rfl⟩
        have hx2 := hx
        clear hx
        by_cases hbig : 1125899906842624 < (n : Int)
        · have HF := Lib.hid (centsR_none (cents_none_big (k := k) (by rw [← HN.out]; omega)))
          clear h46
          go_wp2
          go_ret2
          exact ⟨HF.out, rfl⟩
        have HN2 : Hid (10 * n + (c.toNat - 48) = numL 0 (((ls s).take (k + 1)).filter digC)) := Lib.hid (by rw [HM.out, if_pos (by rw [digC_iff]; have := HC.out; omega), ← HN.out]; have := HC.out; omega)
        clear h46
        go_wp2
        go_round
        case rel => exact ⟨k + 1, 10 * n + (c.toNat - 48), by omega, by go_num, by go_num, by rw [HD.out], by omega, HN2⟩
        case measure => simp [intOf]; omega
      · have hk0 : ((k : Int) == 0) = false := beq_eq_false_iff_ne.2 (by omega)
        clear k0
        by_cases h46 : c = 46
        · have b46 : (c == 46) = true := beq_iff_eq.2 h46
          have HN2 : Hid (n = numL 0 (((ls s).take (k + 1)).filter digC)) := Lib.hid (by rw [HM.out, if_neg (by rw [digC_iff]; have := HC.out; omega)]; exact HN.out)
          clear h46
          go_wp2
          go_round
          case rel => exact ⟨k + 1, n, by omega, by go_num, rfl, by rw [HD.out], hn, HN2⟩
          case measure => simp [intOf]; omega
        have b46 : (c == 46) = false := beq_eq_false_iff_ne.2 h46
        by_cases hx : c < 48
        · have HF := Lib.hid (centsR_none (cents_none_byte HB.out (centC_no HC.out HMM.out h46 (by omega))))
          clear h46
          go_wp2
          go_ret2
          exact ⟨HF.out, rfl⟩
        have hx1 := hx
        clear hx
        by_cases hx : 57 < c
        · have HF := Lib.hid (centsR_none (cents_none_byte HB.out (centC_no HC.out HMM.out h46 (by omega))))
          clear h46
          go_wp2
          go_ret2
          exact ⟨HF.out, rfl⟩
        have hx2 := hx
        clear hx
        by_cases hbig : 1125899906842624 < (n : Int)
        · have HF := Lib.hid (centsR_none (cents_none_big (k := k) (by rw [← HN.out]; omega)))
          clear h46
          go_wp2
          go_ret2
          exact ⟨HF.out, rfl⟩
        have HN2 : Hid (10 * n + (c.toNat - 48) = numL 0 (((ls s).take (k + 1)).filter digC)) := Lib.hid (by rw [HM.out, if_pos (by rw [digC_iff]; have := HC.out; omega), ← HN.out]; have := HC.out; omega)
        clear h46
        go_wp2
        go_round
        case rel => exact ⟨k + 1, 10 * n + (c.toNat - 48), by omega, by go_num, by go_num, by rw [HD.out], by omega, HN2⟩
        case measure => simp [intOf]; omega
    · obtain rfl : k = s.size := by omega
      have HN2 : Hid (n = numL 0 ((ls s).filter digC)) := Lib.hid (by have := HN.out; rwa [List.take_of_length_le (by rw [ls_len]; omega)] at this)
      by_cases h0 : s.size = 0
      · have he : s.toList.isEmpty = true := by rw [isEmpty_ls, (nil_iff s).2 h0]; rfl
        have HF := Lib.hid (centsR_none (l := ls s) (by rw [(nil_iff s).2 h0]; rfl))
        have HD : Hid (decide (0 < s.size ∧ (ls s).head? = some 45) = false) := Lib.hid (decide_eq_false (by omega))
        rw [HD.out]
        clear h0
        go_wp2
        go_ret2
        exact ⟨HF.out, rfl⟩
      have he : s.toList.isEmpty = false := by rw [isEmpty_ls]; simpa using fun h => h0 ((nil_iff s).1 h)
      have HE := Lib.hid (cents_end (l := ls s) (fun h => h0 ((nil_iff s).1 h)))
      rw [← HN2.out] at HE
      have HTX := Lib.hid (fun c W => ce_Text c W)
      by_cases hh : (ls s).head? = some 45
      · have HD : Hid (decide (0 < s.size ∧ (ls s).head? = some 45) = true) := Lib.hid (decide_eq_true ⟨by omega, hh⟩)
        have HE2 : Hid (centsO (ls s) = if textC (-(n : Int)) = ls s then some (-(n : Int)) else none) := Lib.hid (by have := HE.out; rw [show ((ls s).head? == some 45) = true by rw [hh]; rfl] at this; exact this)
        rw [HD.out]
        clear hh h0
        by_cases ht : textC (-(n : Int)) = ls s
        · have bt : (textC (-(n : Int)) == s.toList) = true := by rw [toList_ls, ht]; exact beq_self_eq_true _
          have HF := Lib.hid (centsR_some (l := ls s) (c := -(n : Int)) (by rw [HE2.out, if_pos ht]))
          clear ht
          go_wp2_with fail
          refine (HTX.out _ _).mono ?_
          rintro e w1 ⟨rfl, rfl⟩
          go_wp2
          go_ret2
          exact ⟨HF.out, rfl⟩
        · have bt : (textC (-(n : Int)) == s.toList) = false := by rw [toList_ls]; exact beq_eq_false_iff_ne.2 ht
          have HF := Lib.hid (centsR_none (l := ls s) (by rw [HE2.out, if_neg ht]))
          clear ht
          go_wp2_with fail
          refine (HTX.out _ _).mono ?_
          rintro e w1 ⟨rfl, rfl⟩
          go_wp2
          go_ret2
          exact ⟨HF.out, rfl⟩
      · have HD : Hid (decide (0 < s.size ∧ (ls s).head? = some 45) = false) := Lib.hid (decide_eq_false (fun h => hh h.2))
        have HE2 : Hid (centsO (ls s) = if textC ((n : Int)) = ls s then some ((n : Int)) else none) := Lib.hid (by have := HE.out; rw [show ((ls s).head? == some 45) = false by simpa using hh] at this; exact this)
        rw [HD.out]
        clear hh h0
        by_cases ht : textC ((n : Int)) = ls s
        · have bt : (textC ((n : Int)) == s.toList) = true := by rw [toList_ls, ht]; exact beq_self_eq_true _
          have HF := Lib.hid (centsR_some (l := ls s) (c := (n : Int)) (by rw [HE2.out, if_pos ht]))
          clear ht
          go_wp2_with fail
          refine (HTX.out _ _).mono ?_
          rintro e w1 ⟨rfl, rfl⟩
          go_wp2
          go_ret2
          exact ⟨HF.out, rfl⟩
        · have bt : (textC ((n : Int)) == s.toList) = false := by rw [toList_ls]; exact beq_eq_false_iff_ne.2 ht
          have HF := Lib.hid (centsR_none (l := ls s) (by rw [HE2.out, if_neg ht]))
          clear ht
          go_wp2_with fail
          refine (HTX.out _ _).mono ?_
          rintro e w1 ⟨rfl, rfl⟩
          go_wp2
          go_ret2
          exact ⟨HF.out, rfl⟩
end Go.Proofs.YtheaacliomfkoaaGreatDoor

/- Amounts: the reference's reading of a text. -/
namespace Go.Proofs.YtheaacliomfkoaaGreatDoor
open Go.RowKit

end Go.Proofs.YtheaacliomfkoaaGreatDoor

/- Amounts: the reference's reading of a text, walked; may a text be an amount's? -/
namespace Go.Proofs.YtheaacliomfkoaaGreatDoor
open Go.RowKit

/-- May a text be an amount's? -/
theorem fc_amount (s : ByteArray) (w : World) (hs : s.size ≤ 1000000) : Calls Tryz.prog 186 #[.string s] w fun e w' => e = .returned (.bool (amountB (ls s))) ∧ w = w' := by
  have HP := Lib.hid (fun W => ce_Parse s W hs)
  go_enter Tryz.func186, Tryz.ntmps186
  go_wp2_with fail
  refine (HP.out _).mono ?_
  rintro e w1 ⟨rfl, rfl⟩
  unfold centsR
  match hc : centsO (ls s) with
  | none =>
    have HF : Hid (amountB (ls s) = false) := Lib.hid (by unfold amountB; rw [hc])
    go_wp2
    go_ret
    exact ⟨ret_b HF.out.symm, rfl⟩
  | some c =>
    have HF : Hid (amountB (ls s) = decide (0 ≤ c)) := Lib.hid (by unfold amountB; rw [hc])
    go_wp2
    go_ret
    exact ⟨ret_b HF.out.symm, rfl⟩
end Go.Proofs.YtheaacliomfkoaaGreatDoor

/- Merged from: Wgt Wgtw Ord. -/
/- Weights: the program's test of a text. -/
namespace Go.Proofs.YtheaacliomfkoaaGreatDoor
open Go.RowKit Go.Sort Go.WideMaps Go.Maps Go.WideElems

theorem weights_bad1 {l x : List UInt8} {k : Nat} (hx : (pieces 32 l)[k]? = some x) (h : weightB x = false) : weightsB l = false := by
  unfold weightsB; rw [all_bad hx h]; rfl
theorem weights_bad2 {l x : List UInt8} {k : Nat} (hx : (pieces 32 l)[k]? = some x) (h : wName x ∈ ((pieces 32 l).take k).map wName) : weightsB l = false := by
  have : ¬ ((pieces 32 l).map wName).Nodup := by
    intro hn
    obtain ⟨hlt, hx'⟩ := List.getElem?_eq_some_iff.1 hx
    have hs : pieces 32 l = (pieces 32 l).take k ++ x :: (pieces 32 l).drop (k + 1) := by
      conv => lhs; rw [← List.take_append_drop k (pieces 32 l)]
      rw [List.drop_eq_getElem_cons hlt, hx']
    rw [hs, List.map_append, List.nodup_append] at hn
    exact hn.2.2 _ h _ (by simp) rfl
  unfold weightsB; rw [decide_eq_false this]; simp
theorem weights_end {l : List UInt8} (h1 : (pieces 32 l).all weightB = true) (h2 : ((pieces 32 l).map wName).Nodup) : weightsB l = decide ((pieces 32 l).length ≤ 64) := by
  unfold weightsB; rw [h1, decide_eq_true h2]; rfl
theorem nodup_more {l x : List UInt8} {k : Nat} (hx : (pieces 32 l)[k]? = some x) (h : (((pieces 32 l).take k).map wName).Nodup) (hn : wName x ∉ ((pieces 32 l).take k).map wName) : (((pieces 32 l).take (k + 1)).map wName).Nodup := by
  rw [List.take_add_one, hx, List.map_append, List.nodup_append]
  refine ⟨h, by simp, ?_⟩
  intro a ha b hb hab
  simp at hb
  subst hb; subst hab
  exact hn ha
abbrev nKey (a : List UInt8) : Lit := .string a
/-- What the map of names holds behind some names. -/
structure Met (D : DataW Unit) (N : List (List UInt8)) : Prop where
  map : IsMap D
  at_ : ∀ a : List UInt8, D.atKey (nKey a) (.lit (.int .i64 0)) = .lit (.int .i64 (if a ∈ N then 1 else 0))
theorem Met.start : Met (.map []) [] := ⟨isMap_empty, fun a => by rfl⟩
theorem Met.more {D : DataW Unit} {N : List (List UInt8)} (h : Met D N) (a : List UInt8) (ha : a ∉ N) : Met (D.put (nKey a) (.lit (.int .i64 1))) (N ++ [a]) := by
  refine ⟨h.map.put _ _, fun b => ?_⟩
  by_cases hb : b = a
  · subst hb
    rw [atKey_put_same h.map (by trivial)]
    simp
  · rw [atKey_put_other (by intro e; injection e with e; exact hb e), h.at_ b]
    simp [hb]
end Go.Proofs.YtheaacliomfkoaaGreatDoor

/- Weights: the program's test of a text, walked. -/
namespace Go.Proofs.YtheaacliomfkoaaGreatDoor
open Go.RowKit Go.Sort Go.WideMaps Go.Maps Go.WideElems

theorem keyS : Keyed Tryz.prog 9 := string_keyed Tryz.underlying9
theorem zeroI (w : World) : (zeroValue 3).run Tryz.prog w = .ok (.int .i64 0) w := by kernel_rfl
abbrev OM (w : World) (b n : Nat) (D : DataW Unit) : Prop := w.ownsMap Tryz.prog 9 (plainElem Tryz.prog 3) b n D

theorem weightB_at {l a p : List UInt8} {pt : Bool} (hc : cutB 58 l = (a, p, pt)) : weightB l = (pt && nameB a && (match tensO p 1000000 with | some v => decide (v ≠ 0) | none => false)) := by
  unfold weightB wName; rw [hc]; rfl
theorem weightB_no {l a p : List UInt8} {pt : Bool} {v : Nat} (hc : cutB 58 l = (a, p, pt)) (hv : ∀ k, tensO p 1000000 = some k → v = k) (h : pt = false ∨ nameB a = false ∨ (tensO p 1000000).isSome = false ∨ v = 0) : weightB l = false := by
  rw [weightB_at hc]
  rcases h with h | h | h | h
  · rw [h]; rfl
  · rw [h]; simp
  · cases ht : tensO p 1000000 with
    | none => simp
    | some k => rw [ht] at h; cases h
  · cases ht : tensO p 1000000 with
    | none => simp
    | some k => have := hv k ht; subst this; rw [h]; simp
theorem weightB_yes {l a p : List UInt8} {v : Nat} (hc : cutB 58 l = (a, p, true)) (hv : ∀ k, tensO p 1000000 = some k → v = k) (h1 : nameB a = true) (h2 : (tensO p 1000000).isSome = true) (h3 : v ≠ 0) : weightB l = true := by
  rw [weightB_at hc, h1]
  cases ht : tensO p 1000000 with
  | none => rw [ht] at h2; cases h2
  | some k => have := hv k ht; subst this; simp [h3]

set_option maxHeartbeats 4000000 in
set_option maxRecDepth 10000 in
theorem fc_weights (s : ByteArray) (w : World) (hs : s.size ≤ 1000000) (hT : Tb w) : Calls Tryz.prog 163 #[.string s] w fun e w' => e = .returned (.bool (weightsB (ls s))) ∧ Below w.heap.size w w' := by
  have hmm := @run_makeMap Tryz.prog
  have HTB := Lib.hid hT
  have HSP := Lib.hid (c_Split s 32 w hs hT)
  clear hT
  go_enter Tryz.func163, Tryz.ntmps163
  go_wp2_with fail
  refine (HSP.out).mono ?_
  rintro e w1 ⟨L, hL, rfl, hw1⟩
  have hlen : L.length = (pieces 32 (ls s)).length := by rw [← hL, List.length_map]
  have hmax : L.length ≤ 1000001 := by have := (pieces_le 32 (ls s)).1; have := ls_len s; omega
  have hsz : ∀ x ∈ L, x.size ≤ 1000000 := by
    intro x hx
    have h1 := (pieces_le 32 (ls s)).2 (ls x) (by rw [← hL]; exact List.mem_map_of_mem hx)
    have h2 := ls_len s
    have h3 := ls_len x
    omega
  have hcell : ∀ j x, L[j]? = some x → w1.cell? ⟨w.heap.size, j, none⟩ = some (.string x) := by
    intro j x hx
    rw [hw1]
    exact new_cell w _ _ _ (by simp [hx])
  have hb1 : Below w.heap.size w w1 := by rw [hw1]; exact bAlloc w _
  have hs1 : w1.heap.size = w.heap.size + 1 := by rw [hw1]; simp
  clear hw1
  obtain ⟨sb, hsb⟩ : ∃ x, w.heap.size = x := ⟨_, rfl⟩
  have HPC : Hid (∀ k x, L[k]? = some x → (pieces 32 (ls s))[k]? = some (ls x)) := Lib.hid (fun k x hx => by rw [← hL, List.getElem?_map, hx]; rfl)
  have HLN := Lib.hid hlen
  have HSZ := Lib.hid hsz
  rw [hsb] at hcell
  have HCE := Lib.hid hcell
  have HB1 := Lib.hid hb1
  have HS1 : Hid (sb < w1.heap.size ∧ w.heap.size ≤ w1.heap.size) := Lib.hid (by omega)
  rw [hsb]
  clear hsb hs1 hL hlen hsz hcell hb1
  go_wp2
  obtain ⟨mb, hmb⟩ : ∃ x, w1.heap.size = x := ⟨_, rfl⟩
  obtain ⟨w2, hw2⟩ : ∃ x, w1.alloc (.map #[] 0) = x := ⟨_, rfl⟩
  have HOM : Hid (OM w2 mb 0 (.map [])) := Lib.hid (by rw [← hw2, ← hmb]; exact World.ownsMap_made _ _ _ _)
  have HB2 : Hid (Below w1.heap.size w1 w2) := Lib.hid (by rw [← hw2]; exact bAlloc _ _)
  have HMB : Hid (w1.heap.size ≤ mb) := Lib.hid (by omega)
  rw [hw2, hmb]
  clear hmb hw2 hmm
  go_loopw [6, 7, 8, 9, 10, 11, 17] (fun _ _ _ _ _ _ iv wr => ∃ (k : Nat) (D : DataW Unit), k ≤ L.length ∧ iv = .int .i64 k ∧ Hid (OM wr mb k D) ∧ Hid (Met D (((pieces 32 (ls s)).take k).map wName)) ∧ Hid (((pieces 32 (ls s)).take k).all weightB = true) ∧ Hid ((((pieces 32 (ls s)).take k).map wName).Nodup) ∧ Hid (Below w1.heap.size w1 wr)) (fun _ _ _ _ _ _ iv _ => L.length - (intOf iv).toNat)
  case atStart => exact ⟨0, .map [], Nat.zero_le _, rfl, HOM, Lib.hid Met.start, Lib.hid rfl, Lib.hid List.nodup_nil, HB2⟩
  case round =>
    obtain ⟨k, D, hk, rfl, HO, HMT, HAL, HND, HBE⟩ := hrel
    by_cases hlt : k < L.length
    · obtain ⟨x, hx⟩ : ∃ x, L[k]? = some x := ⟨_, List.getElem?_eq_getElem hlt⟩
      have C0 : wr.cell? ⟨sb, k, none⟩ = some (.string x) := by rw [HBE.out.cell (p := ⟨sb, k, none⟩) HS1.out.1]; exact HCE.out k x hx
      have HXP := Lib.hid (HPC.out k x hx)
      have hxs := HSZ.out x (List.mem_of_getElem? hx)
      clear hx
      obtain ⟨a, p, pt, hc⟩ : ∃ a p pt, cutB 58 (ls x) = (a, p, pt) := ⟨_, _, _, rfl⟩
      have HCU := Lib.hid hc
      have hcs := cut_sizes hc
      have hls := ls_len x
      have TBR : Hid (Tb wr) := Lib.hid (HTB.out.below (bTrans HB1.out HBE.out))
      have HCC := Lib.hid (fun W hT => c_Cut x 58 a p pt hc W hxs hT)
      have hpl : p.length ≤ 1000000 := by omega
      have hal : a.length ≤ 1000000 := by omega
      have HTN := Lib.hid (fun W hT => fc_tens ⟨p.toArray⟩ 1000000 W (by omega) (by rw [size_bytes]; exact hpl) hT)
      have HNM := Lib.hid (fun W => fc_isName ⟨a.toArray⟩ W (by rw [size_bytes]; exact hal))
      have HWN : Hid (wName (ls x) = a) := Lib.hid (by unfold wName; rw [hc])
      clear hc hls hcs
      go_wp2_with fail
      refine (HCC.out _ TBR.out).mono ?_
      rintro e wc ⟨rfl, hgc⟩
      have TBC : Hid (Tb wc) := Lib.hid (TBR.out.grows hgc)
      go_wp2_with fail
      refine (HTN.out _ TBC.out).mono ?_
      rintro e wd ⟨⟨v, rfl, hv⟩, hbd⟩
      rw [ls_bytes] at hv
      rw [ls_bytes]
      have HV := Lib.hid hv
      have HBD : Hid (Below wr.heap.size wr wd) := Lib.hid (bTrans hgc.below hbd)
      have HOD : Hid (OM wd mb k D) := Lib.hid (HO.out.kept (row := none) ⟨HBD.out.os, HBD.out.tape, HBD.out.output, HBD.out.size, fun i hi _ => HBD.out.block i hi⟩ (by simp))
      clear hgc hbd hv
      have hkey : keyOf Tryz.prog 9 (.string ⟨a.toArray⟩) = some (nKey a) := keyOf_string_mk Tryz.underlying9 (by rw [size_bytes]; unfold maxLen; omega)
      obtain ⟨c, hrun, hat, _⟩ := HOD.out.lookup_int keyS Tryz.underlying234 Tryz.underlying3 (zeroI _) hkey
      rw [HMT.out.at_ a] at hat
      have hc01 : c = if a ∈ ((pieces 32 (ls s)).take k).map wName then 1 else 0 := by injection hat with h; injection h with _ h; exact h.symm
      have HK := Lib.hid hkey
      clear hat
      obtain ⟨tk, htk⟩ : ∃ b, (tensO p 1000000).isSome = b := ⟨_, rfl⟩
      obtain ⟨nm, hnm⟩ : ∃ b, nameB a = b := ⟨_, rfl⟩
      have HNB : Hid (∀ W, Calls Tryz.prog 154 #[.string ⟨a.toArray⟩] W fun e w' => e = .returned (.bool nm) ∧ W = w') := Lib.hid (fun W => by have := HNM.out W; rw [ls_bytes, hnm] at this; exact this)
      rw [htk]
      have HTK := Lib.hid htk
      have HNMB := Lib.hid hnm
      clear htk hnm
      by_cases hin : a ∈ ((pieces 32 (ls s)).take k).map wName
      · obtain rfl : c = 1 := by rw [hc01, if_pos hin]
        have HIN := Lib.hid hin
        clear hin hc01
        go_wp2_with (at_mapUpdate; refine wpList_mapUpdate_own _ rfl _ _ _ 234 rfl 9 3 keyS Tryz.underlying234 _ mb k _ rfl HOD.out (by unfold maxLen; omega) _ _ _ rfl rfl HK.out _ [] (plainElem_int Tryz.underlying3 (by decide)) ?_)
        intro we HOE hge
        have HBE2 : Hid (Below w1.heap.size w1 we) := Lib.hid ((HBE.out.trans (HBD.out.mono HBE.out.size)).grown hge (by have := HBE.out.size; have := HBD.out.size; omega) (fun j hj => by cases hj; exact HMB.out))
        obtain ⟨c2, hrun2, hat2, _⟩ := HOE.lookup_int keyS Tryz.underlying234 Tryz.underlying3 (zeroI _) HK.out
        rw [atKey_put_same HMT.out.map (by trivial)] at hat2
        obtain rfl : c2 = 2 := by injection hat2 with h; injection h with _ h; exact h.symm
        have HOE2 := Lib.hid HOE
        clear hge hat2 HOE hrun
        cases pt with
        | false =>
          have HF : Hid (weightsB (ls s) = false) := Lib.hid (weights_bad1 HXP.out (weightB_no HCU.out HV.out (.inl rfl)))
          go_wp2
          go_ret
          exact ⟨ret_b HF.out.symm, bTrans HB1.out HBE2.out⟩
        | true =>
          cases nm with
          | false =>
            have HF : Hid (weightsB (ls s) = false) := Lib.hid (weights_bad1 HXP.out (weightB_no HCU.out HV.out (.inr (.inl HNMB.out))))
            go_wp2_with fail
            refine (HNB.out _).mono ?_
            rintro e wf ⟨rfl, rfl⟩
            go_wp2
            go_ret
            exact ⟨ret_b HF.out.symm, bTrans HB1.out HBE2.out⟩
          | true =>
            cases tk with
            | false =>
              have HF : Hid (weightsB (ls s) = false) := Lib.hid (weights_bad1 HXP.out (weightB_no HCU.out HV.out (.inr (.inr (.inl HTK.out)))))
              go_wp2_with fail
              refine (HNB.out _).mono ?_
              rintro e wf ⟨rfl, rfl⟩
              go_wp2
              go_ret
              exact ⟨ret_b HF.out.symm, bTrans HB1.out HBE2.out⟩
            | true =>
              by_cases hv0 : v = 0
              · have bv : ((v : Int) == 0) = true := beq_iff_eq.2 (by omega)
                have HV0 := Lib.hid hv0
                clear hv0
                have HF : Hid (weightsB (ls s) = false) := Lib.hid (weights_bad1 HXP.out (weightB_no HCU.out HV.out (.inr (.inr (.inr HV0.out)))))
                go_wp2_with fail
                refine (HNB.out _).mono ?_
                rintro e wf ⟨rfl, rfl⟩
                go_wp2
                go_ret
                exact ⟨ret_b HF.out.symm, bTrans HB1.out HBE2.out⟩
              · have bv : ((v : Int) == 0) = false := beq_eq_false_iff_ne.2 (by omega)
                have HV0 := Lib.hid hv0
                clear hv0
                have HF : Hid (weightsB (ls s) = false) := Lib.hid (weights_bad2 HXP.out (by rw [HWN.out]; exact HIN.out))
                go_wp2_with fail
                refine (HNB.out _).mono ?_
                rintro e wf ⟨rfl, rfl⟩
                go_wp2
                go_ret
                exact ⟨ret_b HF.out.symm, bTrans HB1.out HBE2.out⟩
      · obtain rfl : c = 0 := by rw [hc01, if_neg hin]
        have HIN := Lib.hid hin
        clear hin hc01
        go_wp2_with (at_mapUpdate; refine wpList_mapUpdate_own _ rfl _ _ _ 234 rfl 9 3 keyS Tryz.underlying234 _ mb k _ rfl HOD.out (by unfold maxLen; omega) _ _ _ rfl rfl HK.out _ [] (plainElem_int Tryz.underlying3 (by decide)) ?_)
        intro we HOE hge
        have HBE2 : Hid (Below w1.heap.size w1 we) := Lib.hid ((HBE.out.trans (HBD.out.mono HBE.out.size)).grown hge (by have := HBE.out.size; have := HBD.out.size; omega) (fun j hj => by cases hj; exact HMB.out))
        obtain ⟨c2, hrun2, hat2, _⟩ := HOE.lookup_int keyS Tryz.underlying234 Tryz.underlying3 (zeroI _) HK.out
        rw [atKey_put_same HMT.out.map (by trivial)] at hat2
        obtain rfl : c2 = 1 := by injection hat2 with h; injection h with _ h; exact h.symm
        have HOE2 := Lib.hid HOE
        clear hge hat2 HOE hrun
        cases pt with
        | false =>
          have HF : Hid (weightsB (ls s) = false) := Lib.hid (weights_bad1 HXP.out (weightB_no HCU.out HV.out (.inl rfl)))
          go_wp2
          go_ret
          exact ⟨ret_b HF.out.symm, bTrans HB1.out HBE2.out⟩
        | true =>
          cases nm with
          | false =>
            have HF : Hid (weightsB (ls s) = false) := Lib.hid (weights_bad1 HXP.out (weightB_no HCU.out HV.out (.inr (.inl HNMB.out))))
            go_wp2_with fail
            refine (HNB.out _).mono ?_
            rintro e wf ⟨rfl, rfl⟩
            go_wp2
            go_ret
            exact ⟨ret_b HF.out.symm, bTrans HB1.out HBE2.out⟩
          | true =>
            cases tk with
            | false =>
              have HF : Hid (weightsB (ls s) = false) := Lib.hid (weights_bad1 HXP.out (weightB_no HCU.out HV.out (.inr (.inr (.inl HTK.out)))))
              go_wp2_with fail
              refine (HNB.out _).mono ?_
              rintro e wf ⟨rfl, rfl⟩
              go_wp2
              go_ret
              exact ⟨ret_b HF.out.symm, bTrans HB1.out HBE2.out⟩
            | true =>
              by_cases hv0 : v = 0
              · have bv : ((v : Int) == 0) = true := beq_iff_eq.2 (by omega)
                have HV0 := Lib.hid hv0
                clear hv0
                have HF : Hid (weightsB (ls s) = false) := Lib.hid (weights_bad1 HXP.out (weightB_no HCU.out HV.out (.inr (.inr (.inr HV0.out)))))
                go_wp2_with fail
                refine (HNB.out _).mono ?_
                rintro e wf ⟨rfl, rfl⟩
                go_wp2
                go_ret
                exact ⟨ret_b HF.out.symm, bTrans HB1.out HBE2.out⟩
              · have bv : ((v : Int) == 0) = false := beq_eq_false_iff_ne.2 (by omega)
                have HV0 := Lib.hid hv0
                clear hv0
                have HW : Hid (weightB (ls x) = true) := Lib.hid (weightB_yes HCU.out HV.out HNMB.out HTK.out HV0.out)
                have HAL2 := Lib.hid (all_more HAL.out HXP.out HW.out)
                have HND2 := Lib.hid (nodup_more HXP.out HND.out (by rw [HWN.out]; exact HIN.out))
                have HMT2 : Hid (Met (D.put (nKey a) (.lit (.int .i64 1))) (((pieces 32 (ls s)).take (k + 1)).map wName)) := Lib.hid (by
                  have := HMT.out.more a HIN.out
                  rw [List.take_add_one, HXP.out, List.map_append]
                  show Met _ (_ ++ [wName (ls x)])
                  rw [HWN.out]; exact this)
                go_wp2_with fail
                refine (HNB.out _).mono ?_
                rintro e wf ⟨rfl, rfl⟩
                go_wp2
                refine ⟨⟨k + 1, _, by omega, by go_num, HOE2, HMT2, HAL2, HND2, HBE2⟩, by simp [intOf]; omega⟩
    · obtain rfl : k = L.length := by omega
      have HF : Hid (weightsB (ls s) = decide (L.length ≤ 64)) := Lib.hid (by
        have h1 := HAL.out
        have h2 := HND.out
        rw [HLN.out, List.take_length] at h1 h2
        rw [weights_end h1 h2, ← HLN.out])
      go_wp2
      go_ret
      exact ⟨ret_b (by rw [HF.out]; exact decide_eq_decide.2 (by omega)), bTrans HB1.out HBE.out⟩
end Go.Proofs.YtheaacliomfkoaaGreatDoor

/- Orders: the program's test of a text. -/
namespace Go.Proofs.YtheaacliomfkoaaGreatDoor
open Go.RowKit Go.Sort

theorem orderB_len {l : List UInt8} (h : (pieces 32 l).length ≠ 4) : orderB l = false := by
  unfold orderB
  match hp : pieces 32 l with
  | [] => rfl
  | [_] => rfl
  | [_, _] => rfl
  | [_, _, _] => rfl
  | [_, _, _, _] => rw [hp] at h; exact absurd rfl h
  | _ :: _ :: _ :: _ :: _ :: _ => rfl
theorem orderB_at {l a r b c : List UInt8} (h : pieces 32 l = [a, r, b, c]) : orderB l = ((tensO a 99).isSome && decide ((rateE r).2 = 0 ∧ 0 ≤ (rateE r).1 ∧ (rateE r).1 ≤ 1000000) && amountB b && amountB c) := by
  unfold orderB; rw [h]

set_option maxHeartbeats 4000000 in
set_option maxRecDepth 10000 in
theorem fc_order (s : ByteArray) (w : World) (hs : s.size ≤ 1000000) (hT : Tb w) : Calls Tryz.prog 167 #[.string s] w fun e w' => e = .returned (.bool (orderB (ls s))) ∧ Below w.heap.size w w' := by
  have HTB := Lib.hid hT
  have HSP := Lib.hid (c_Split s 32 w hs hT)
  clear hT
  go_enter Tryz.func167, Tryz.ntmps167
  go_wp2_with fail
  refine (HSP.out).mono ?_
  rintro e w1 ⟨L, hL, rfl, hw1⟩
  have hlen : L.length = (pieces 32 (ls s)).length := by rw [← hL, List.length_map]
  have hmax : L.length ≤ 1000001 := by have := (pieces_le 32 (ls s)).1; have := ls_len s; omega
  by_cases h4 : L.length = 4
  · match L, h4 with
    | [x0, x1, x2, x3], _ =>
      have hsz : ∀ x ∈ [x0, x1, x2, x3], x.size ≤ 1000000 := by
        intro x hx
        have h1 := (pieces_le 32 (ls s)).2 (ls x) (by rw [← hL]; exact List.mem_map_of_mem hx)
        have h2 := ls_len s
        have h3 := ls_len x
        omega
      have s0 := hsz x0 (by simp)
      have s1 := hsz x1 (by simp)
      have s2 := hsz x2 (by simp)
      have s3 := hsz x3 (by simp)
      have HB1 : Hid (Below w.heap.size w w1) := Lib.hid (by rw [hw1]; exact bAlloc w _)
      obtain ⟨sb, hsb⟩ : ∃ x, w.heap.size = x := ⟨_, rfl⟩
      have C0 : w1.cell? ⟨sb, 0, none⟩ = some (.string x0) := by rw [hw1, ← hsb]; exact new_cell w _ _ _ rfl
      have C1 : w1.cell? ⟨sb, 1, none⟩ = some (.string x1) := by rw [hw1, ← hsb]; exact new_cell w _ _ _ rfl
      have C2 : w1.cell? ⟨sb, 2, none⟩ = some (.string x2) := by rw [hw1, ← hsb]; exact new_cell w _ _ _ rfl
      have C3 : w1.cell? ⟨sb, 3, none⟩ = some (.string x3) := by rw [hw1, ← hsb]; exact new_cell w _ _ _ rfl
      have HO := Lib.hid (orderB_at (l := ls s) hL.symm)
      have T1 : Hid (Tb w1) := Lib.hid (HTB.out.below HB1.out)
      have HTN := Lib.hid (fun W hT => fc_tens x0 99 W (by omega) s0 hT)
      have HRT := Lib.hid (fun W hT => rt_Parse x1 W s1 hT)
      have HA2 := Lib.hid (fun W => fc_amount x2 W s2)
      have HA3 := Lib.hid (fun W => fc_amount x3 W s3)
      rw [hsb]
      have e4 : [x0, x1, x2, x3].length = 4 := rfl
      clear hsb hw1 hL hlen hsz hmax
      rw [e4]
      clear e4
      go_wp2_with fail
      refine (HTN.out _ T1.out).mono ?_
      rintro e wa ⟨⟨v, rfl, hv⟩, hba⟩
      have C1a := bCell hba C1
      have C2a := bCell hba C2
      have C3a := bCell hba C3
      have HBA := Lib.hid hba
      have T2 : Hid (Tb wa) := Lib.hid (T1.out.below hba)
      clear C0 C1 C2 C3 hba hv
      go_wp2_with fail
      refine (HRT.out _ T2.out).mono ?_
      rintro e wb ⟨rfl, hbb⟩
      have C2b := bCell hbb C2a
      have C3b := bCell hbb C3a
      have HBB : Hid (Below w.heap.size w wb) := Lib.hid (bTrans HB1.out (bTrans HBA.out hbb))
      clear C1a C2a C3a hbb
      unfold rateR
      generalize ht : (tensO (ls x0) 99).isSome = tk at *
      generalize hr1 : (rateE (ls x1)).1 = r1 at *
      generalize hr2 : (rateE (ls x1)).2 = r2 at *
      have HO2 : Hid (orderB (ls s) = (tk && decide (r2 = 0 ∧ 0 ≤ r1 ∧ r1 ≤ 1000000) && amountB (ls x2) && amountB (ls x3))) := Lib.hid HO.out
      clear ht hr1 hr2
      generalize amountB (ls x2) = a2 at *
      generalize amountB (ls x3) = a3 at *
      cases tk with
      | false =>
        have HF : Hid (orderB (ls s) = false) := Lib.hid (by rw [HO2.out]; rfl)
        go_wp2
        go_ret
        exact ⟨ret_b HF.out.symm, HBB.out⟩
      | true =>
        by_cases e2 : r2 = 0
        · have b2 : (r2 == 0) = true := beq_iff_eq.2 e2
          by_cases e3 : 0 ≤ r1
          · by_cases e4 : r1 ≤ 1000000
            · have HD : Hid (orderB (ls s) = (a2 && a3)) := Lib.hid (by rw [HO2.out, decide_eq_true ⟨e2, e3, e4⟩]; rfl)
              clear e2
              have d3 : decide (0 ≤ r1) = true := decide_eq_true e3
              have d4 : decide (r1 ≤ 1000000) = true := decide_eq_true e4
              cases a2 with
              | false =>
                have HF : Hid (orderB (ls s) = false) := Lib.hid (by rw [HD.out]; rfl)
                go_wp2_with fail
                refine (HA2.out _).mono ?_
                rintro e wf ⟨rfl, rfl⟩
                go_wp2
                go_ret
                exact ⟨ret_b HF.out.symm, HBB.out⟩
              | true =>
                have HF : Hid (orderB (ls s) = a3) := Lib.hid (by rw [HD.out]; rfl)
                go_wp2_with fail
                refine (HA2.out _).mono ?_
                rintro e wf ⟨rfl, rfl⟩
                go_wp2_with fail
                refine (HA3.out _).mono ?_
                rintro e wf ⟨rfl, rfl⟩
                go_wp2
                go_ret
                exact ⟨ret_b HF.out.symm, HBB.out⟩
            · have HF : Hid (orderB (ls s) = false) := Lib.hid (by rw [HO2.out, decide_eq_false (fun h => e4 h.2.2)]; rfl)
              clear e2
              have d3 : decide (0 ≤ r1) = true := decide_eq_true e3
              have d4 : decide (r1 ≤ 1000000) = false := decide_eq_false e4
              go_wp2
              go_ret
              exact ⟨ret_b HF.out.symm, HBB.out⟩
          · have HF : Hid (orderB (ls s) = false) := Lib.hid (by rw [HO2.out, decide_eq_false (fun h => e3 h.2.1)]; rfl)
            clear e2
            have d3 : decide (0 ≤ r1) = false := decide_eq_false e3
            go_wp2
            go_ret
            exact ⟨ret_b HF.out.symm, HBB.out⟩
        · have b2 : (r2 == 0) = false := beq_eq_false_iff_ne.2 e2
          have HF : Hid (orderB (ls s) = false) := Lib.hid (by rw [HO2.out, decide_eq_false (fun h => e2 h.1)]; rfl)
          clear e2
          go_wp2
          go_ret
          exact ⟨ret_b HF.out.symm, HBB.out⟩
  · have b4 : ((L.length : Int) != 4) = true := bne_iff_ne.2 (by omega)
    have HF := Lib.hid (orderB_len (l := ls s) (by rw [← hlen]; exact h4))
    have HB1 : Hid (Below w.heap.size w w1) := Lib.hid (by rw [hw1]; exact bAlloc w _)
    clear hw1 h4 hL hlen
    go_wp2
    go_ret
    exact ⟨ret_b HF.out.symm, HB1.out⟩
end Go.Proofs.YtheaacliomfkoaaGreatDoor
