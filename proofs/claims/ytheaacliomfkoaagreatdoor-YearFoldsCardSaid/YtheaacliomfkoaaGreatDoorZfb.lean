/- Out of: Txts. -/
import Derived.Test.YtheaacliomfkoaaGreatDoorSh
import Derived.Test.YtheaacliomfkoaaGreatDoorZfa
import Derived.Deep.Cut
import Derived.Deep.CutRange
import Derived.IntWalk
import Derived.Lib.AtoiErrMem
import Derived.Lib.CutLaws
import Derived.Lib.ItoaNum
import Derived.Lib.ParseIntB
import Derived.Lib.Split
/- Merged from: Num1 Dec Tens Cut1 Fa2 Fa3. -/
/- Numbers in tens, in plain lists of bytes. -/
namespace Go.Proofs.YtheaacliomfkoaaGreatDoor
open Go.RowKit

theorem numL_append (n : Nat) (l m : List UInt8) : numL n (l ++ m) = numL (numL n l) m := by
  induction l generalizing n with
  | nil => rfl
  | cons b l ih => exact ih _
theorem numL_more {n : Nat} {l : List UInt8} {k : Nat} {b : UInt8} (hb : l[k]? = some b) : numL n (l.take (k + 1)) = 10 * numL n (l.take k) + (b.toNat - 48) := by
  rw [List.take_add_one, hb, numL_append]; rfl
theorem numL_ge (l : List UInt8) (n : Nat) : n ≤ numL n l := by
  induction l generalizing n with
  | nil => exact Nat.le_refl _
  | cons b l ih => have := ih (10 * n + (b.toNat - 48)); unfold numL; omega
theorem digC_iff {b : UInt8} : digC b = true ↔ 48 ≤ b.toNat ∧ b.toNat ≤ 57 := by unfold digC; simp
theorem numL_lt (l : List UInt8) (n : Nat) (hd : l.all digC = true) : numL n l < (n + 1) * 10 ^ l.length := by
  induction l generalizing n with
  | nil => show n < (n + 1) * 10 ^ 0; omega
  | cons b l ih =>
    rw [List.all_cons, Bool.and_eq_true] at hd
    have h1 := digC_iff.1 hd.1
    have h2 := ih (10 * n + (b.toNat - 48)) hd.2
    have h3 : (10 * n + (b.toNat - 48) + 1) * 10 ^ l.length ≤ ((n + 1) * 10) * 10 ^ l.length := Nat.mul_le_mul_right _ (by omega)
    show numL (10 * n + (b.toNat - 48)) l < (n + 1) * 10 ^ (l.length + 1)
    rw [Nat.pow_succ, Nat.mul_comm (10 ^ l.length) 10, ← Nat.mul_assoc]
    omega
theorem parseM (M : Nat) (hM : M < 18446744073709551616) : ∀ (l : List UInt8) (acc : Nat), l.all digC = true → acc ≤ M → Lib.parseUintM M acc l = if numL acc l ≤ M then .ok (numL acc l) else .range := by
  intro l
  induction l with
  | nil => intro acc _ h; unfold Lib.parseUintM numL; rw [if_pos h]
  | cons c l ih =>
    intro acc hd h
    rw [List.all_cons, Bool.and_eq_true] at hd
    have hc := digC_iff.1 hd.1
    unfold Lib.parseUintM numL
    rw [if_pos hc]
    have hge := numL_ge l (10 * acc + (c.toNat - 48))
    by_cases h1 : 1844674407370955162 ≤ acc
    · rw [if_pos h1, if_neg (by omega)]
    · rw [if_neg h1]
      by_cases h2 : M < acc * 10 + (c.toNat - 48)
      · rw [if_pos h2, if_neg (by omega)]
      · rw [if_neg h2, Nat.mul_comm acc 10]
        exact ih _ hd.2 (by omega)
theorem parse64 {l : List UInt8} (hd : l.all digC = true) (h0 : l ≠ []) : Lib.parseUintB 64 l = if numL 0 l ≤ 18446744073709551615 then .ok (numL 0 l) else .range := by
  unfold Lib.parseUintB
  rw [if_neg h0]
  exact parseM _ (by decide) l 0 hd (by omega)
theorem tensO_bad {l : List UInt8} {most : Nat} (h : l.all digC = false) : tensO l most = none := by unfold tensO; rw [if_neg (by rw [h]; simp)]
theorem tensO_unneat {l : List UInt8} {most : Nat} (h : neat l = false) : tensO l most = none := by unfold tensO; rw [if_neg (by rw [h]; simp)]
theorem tensO_big {l : List UInt8} {most : Nat} (h : most < numL 0 l) : tensO l most = none := by unfold tensO; rw [if_neg (by omega)]
theorem tensO_ok {l : List UInt8} {most : Nat} (h1 : neat l = true) (h2 : l.all digC = true) (h3 : numL 0 l ≤ most) : tensO l most = some (numL 0 l) := by unfold tensO; rw [if_pos ⟨h1, h2, h3⟩]
theorem neat_one {s : ByteArray} (h : s.size = 1) : neat (ls s) = true := by
  have : (ls s).length = 1 := by rw [ls_len]; exact h
  unfold neat
  match hl : ls s with
  | [] => rw [hl] at this; cases this
  | [x] => rfl
  | x :: y :: r => rw [hl] at this; cases this
theorem neat_two {s : ByteArray} {b : UInt8} (h : 1 < s.size) (hb : (ls s)[0]? = some b) : neat (ls s) = decide (b.toNat ≠ 48) := by
  have hl : 1 < (ls s).length := by rw [ls_len]; exact h
  unfold neat
  match hm : ls s with
  | [] => rw [hm] at hl; cases hl
  | x :: r =>
    rw [hm] at hb hl
    cases hb
    have e1 : decide ((b :: r).length ≤ 1) = false := decide_eq_false (by omega)
    rw [e1]
    by_cases h48 : b = 48
    · subst h48; rfl
    · have : b.toNat ≠ 48 := fun e => h48 (UInt8.toNat_inj.1 (by rw [e]; rfl))
      simp [h48, this]
end Go.Proofs.YtheaacliomfkoaaGreatDoor

/- A number's digits, and the number of digits. -/
namespace Go.Proofs.YtheaacliomfkoaaGreatDoor

theorem dec_small {m : Nat} (h : m < 10) : Lib.decDigits m = [UInt8.ofNat (48 + m % 10)] := by rw [Lib.decDigits, dif_pos h, Nat.mod_eq_of_lt h]
theorem dec_step {m : Nat} (h : ¬ m < 10) : Lib.decDigits m = Lib.decDigits (m / 10) ++ [UInt8.ofNat (48 + m % 10)] := by rw [Lib.decDigits, dif_neg h]
theorem dig_nat (m : Nat) : (UInt8.ofNat (48 + m % 10)).toNat = 48 + m % 10 := by rw [UInt8.toNat_ofNat']; omega
theorem dec_num : ∀ (n : Nat), numL 0 (Lib.decDigits n) = n := by
  intro n
  induction n using Nat.strongRecOn with
  | ind n ih =>
    by_cases h : n < 10
    · rw [dec_small h]; unfold numL numL; rw [dig_nat]; omega
    · rw [dec_step h, numL_append, ih (n / 10) (by omega)]; unfold numL numL; rw [dig_nat]; omega
theorem dec_dig : ∀ (n : Nat), (Lib.decDigits n).all digC = true := by
  intro n
  induction n using Nat.strongRecOn with
  | ind n ih =>
    have hd : digC (UInt8.ofNat (48 + n % 10)) = true := by rw [digC_iff, dig_nat]; omega
    by_cases h : n < 10
    · rw [dec_small h, List.all_cons, hd]; rfl
    · rw [dec_step h, List.all_append, ih (n / 10) (by omega), List.all_cons, hd]; rfl
theorem dec_ne (n : Nat) : Lib.decDigits n ≠ [] := by
  by_cases h : n < 10
  · rw [dec_small h]; simp
  · rw [dec_step h]; simp
theorem dec_head : ∀ (n : Nat), 0 < n → (Lib.decDigits n).head? ≠ some 48 := by
  intro n
  induction n using Nat.strongRecOn with
  | ind n ih =>
    intro h0
    by_cases h : n < 10
    · rw [dec_small h]
      intro e
      have e2 : UInt8.ofNat (48 + n % 10) = 48 := by simpa using e
      have := congrArg UInt8.toNat e2
      rw [dig_nat] at this
      have h48 : (48 : UInt8).toNat = 48 := rfl
      omega
    · rw [dec_step h]
      have := ih (n / 10) (by omega) (by omega)
      match hm : Lib.decDigits (n / 10) with
      | [] => exact absurd hm (dec_ne _)
      | x :: r => rw [hm] at this; exact this
theorem dec_neat (n : Nat) : neat (Lib.decDigits n) = true := by
  unfold neat
  have h1 : (Lib.decDigits n == []) = false := beq_eq_false_iff_ne.2 (dec_ne n)
  rw [h1]
  by_cases h : n < 10
  · rw [dec_small h]; rfl
  · have := dec_head n (by omega)
    simp [this]
theorem dec_len : ∀ (k n : Nat), n < 10 ^ (k + 1) → (Lib.decDigits n).length ≤ k + 1
  | 0, n, h => by rw [dec_small (by omega)]; simp
  | k + 1, n, h => by
    by_cases h10 : n < 10
    · rw [dec_small h10]; simp
    · rw [dec_step h10, List.length_append]
      have := dec_len k (n / 10) (by rw [Nat.pow_succ] at h; omega)
      simp; omega
theorem neat_cons {x y : UInt8} {r : List UInt8} (h : neat (x :: y :: r) = true) : x ≠ 48 := by
  intro e
  subst e
  unfold neat at h
  simp at h
theorem neat_of {x : UInt8} {r : List UInt8} (h : x ≠ 48) : neat (x :: r) = true := by
  unfold neat
  simp [h]
theorem num_pos {x : UInt8} {r : List UInt8} (hd : digC x = true) (h : x ≠ 48) : 0 < numL 0 (x :: r) := by
  have h1 := digC_iff.1 hd
  have h2 : x.toNat ≠ 48 := fun e => h (UInt8.toNat_inj.1 (by rw [e]; rfl))
  have := numL_ge r (10 * 0 + (x.toNat - 48))
  unfold numL
  omega
theorem dec_of : ∀ (n : Nat) (a : List UInt8), a.length = n → neat a = true → a.all digC = true → Lib.decDigits (numL 0 a) = a := by
  intro n
  induction n with
  | zero =>
    intro a ha hn _
    rw [List.length_eq_zero_iff.1 ha] at hn; cases hn
  | succ n ih =>
    intro a ha hn hd
    have hne : a ≠ [] := by intro e; rw [e] at ha; cases ha
    have hs := List.dropLast_concat_getLast hne
    have hl : a.dropLast.length = n := by rw [List.length_dropLast, ha]; rfl
    generalize a.dropLast = b at *
    generalize a.getLast hne = d at *
    subst hs
    rw [List.all_append, Bool.and_eq_true, List.all_cons, Bool.and_eq_true] at hd
    have hdd : digC d = true := hd.2.1
    have hb : b.all digC = true := hd.1
    have h48 := digC_iff.1 hdd
    have hnum : numL 0 (b ++ [d]) = 10 * numL 0 b + (d.toNat - 48) := by rw [numL_append]; rfl
    rw [hnum]
    have hlast : UInt8.ofNat (48 + (10 * numL 0 b + (d.toNat - 48)) % 10) = d := UInt8.toNat_inj.1 (by rw [dig_nat]; omega)
    match hbb : b with
    | [] =>
      have : numL 0 ([] : List UInt8) = 0 := rfl
      rw [this] at hlast ⊢
      rw [dec_small (by omega), hlast]; rfl
    | x :: r =>
      have hx : x ≠ 48 := by
        match r, hn with
        | [], hn => exact neat_cons hn
        | y :: r', hn => exact neat_cons hn
      have hxd : digC x = true := by simp only [List.all_cons, Bool.and_eq_true] at hb; exact hb.1
      have hp := num_pos (r := r) hxd hx
      rw [dec_step (by omega), hlast]
      have e : (10 * numL 0 (x :: r) + (d.toNat - 48)) / 10 = numL 0 (x :: r) := by omega
      rw [e, ih (x :: r) hl (neat_of hx) hb]
end Go.Proofs.YtheaacliomfkoaaGreatDoor

/- Numbers in tens: the program's and the reference's reading are one. -/
namespace Go.Proofs.YtheaacliomfkoaaGreatDoor
open Go.RowKit

/-- What a reading answers: a number, and whether it is one. -/
def TensIs (l : List UInt8) (most : Nat) (e : Ending) : Prop := ∃ v : Nat, e = .returned (.tuple #[.int .u64 v, .bool (tensO l most).isSome]) ∧ ∀ k, tensO l most = some k → v = k
theorem TensIs.none_ {l : List UInt8} {most : Nat} (h : tensO l most = none) (v : Nat) : TensIs l most (.returned (.tuple #[.int .u64 v, .bool false])) := ⟨v, by rw [h]; rfl, fun k hk => by rw [h] at hk; cases hk⟩
theorem TensIs.some_ {l : List UInt8} {most v : Nat} (h : tensO l most = some v) : TensIs l most (.returned (.tuple #[.int .u64 v, .bool true])) := ⟨v, by rw [h]; rfl, fun k hk => by rw [h] at hk; cases hk; rfl⟩

set_option maxHeartbeats 2000000 in
theorem fc_tens (s : ByteArray) (most : Nat) (w : World) (hm : most ≤ 18446744073709551615) (hs : s.size ≤ 1000000) (hT : Tb w) : Calls Tryz.prog 183 #[.string s, .int .u64 most] w fun e w' => TensIs (ls s) most e ∧ Below w.heap.size w w' := by
  have HTB := Lib.hid hT
  clear hT
  go_enter Tryz.func183, Tryz.ntmps183
  go_upto_region 1 with fail
  go_cut [20] from 9 to 20 (fun q wx => q = .bool (!neat (ls s)) ∧ w = wx)
  case first =>
    by_cases h0 : s.size = 0
    · have he : s.toList.isEmpty = true := by rw [isEmpty_ls, (nil_iff s).2 h0]; rfl
      have HN : Hid (neat (ls s) = false) := Lib.hid (by rw [(nil_iff s).2 h0]; rfl)
      clear h0
      go_wp2
      go_meet
      exact ⟨by rw [HN.out]; rfl, rfl⟩
    have he : s.toList.isEmpty = false := by rw [isEmpty_ls]; simpa using fun h => h0 ((nil_iff s).1 h)
    by_cases h1 : (1 : Int) < (s.size : Int)
    · have hix0 : ∀ w, (Instr.index 9 (.string s) (.int .i64 0)).run Tryz.prog w = .ok (.int .u8 (byteAt s 0)) w := run_at (P := Tryz.prog) 9 Tryz.underlying9 s 0 (by omega)
      obtain ⟨b0, hb0, hc0⟩ := byte_some (s := s) (k := 0) (by omega)
      generalize byteAt s 0 = c0 at *
      have HN : Hid (neat (ls s) = decide (c0 ≠ 48)) := Lib.hid (by rw [neat_two (by omega) hb0, hc0]; by_cases h : b0.toNat = 48 <;> simp [h]; omega)
      clear hb0 hc0
      by_cases h2 : c0 = 48
      · have h3 : (c0 == 48) = true := beq_iff_eq.2 h2
        have HN2 : Hid (neat (ls s) = false) := Lib.hid (by rw [HN.out]; simp [h2])
        clear h2
        go_wp2
        go_meet
        exact ⟨by rw [HN2.out]; rfl, rfl⟩
      · have h3 : (c0 == 48) = false := beq_eq_false_iff_ne.2 h2
        have HN2 : Hid (neat (ls s) = true) := Lib.hid (by rw [HN.out]; simp [h2])
        clear h2
        go_wp2
        go_meet
        exact ⟨by rw [HN2.out]; rfl, rfl⟩
    · have HN : Hid (neat (ls s) = true) := Lib.hid (neat_one (by omega))
      go_wp2
      go_meet
      exact ⟨by rw [HN.out]; rfl, rfl⟩
  case rest =>
  obtain ⟨rfl, rfl⟩ := hcut
  by_cases hn : neat (ls s) = true
  · have HNT := Lib.hid hn
    rw [hn]
    clear hn
    go_wp2
    go_loop [6, 23] (fun _ iv => ∃ k : Nat, k ≤ s.size ∧ iv = .int .i64 k ∧ Hid (((ls s).take k).all digC = true)) (fun _ iv => s.size - (intOf iv).toNat)
    case atStart => exact ⟨0, Nat.zero_le _, rfl, Lib.hid rfl⟩
    case round =>
      obtain ⟨k, hk, rfl, HP⟩ := hrel
      by_cases hlt : k < s.size
      · have hix := run_at (P := Tryz.prog) 9 Tryz.underlying9 s k hlt
        have hbd := byteAt_bd s k
        obtain ⟨b, hb, hcb⟩ := byte_some hlt
        have HB := Lib.hid hb
        have HC := Lib.hid hcb
        clear hb hcb
        generalize byteAt s k = c at *
        by_cases h1 : c < 48
        · have HF := Lib.hid (TensIs.none_ (most := most) (tensO_bad (all_bad HB.out (by have := HC.out; unfold digC; simp; omega))) 0)
          go_wp2
          go_ret2
          exact ⟨HF.out, Below.refl _ _⟩
        · by_cases h2 : 57 < c
          · have HF := Lib.hid (TensIs.none_ (most := most) (tensO_bad (all_bad HB.out (by have := HC.out; unfold digC; simp; omega))) 0)
            go_wp2
            go_ret2
            exact ⟨HF.out, Below.refl _ _⟩
          · have HN : Hid (((ls s).take (k + 1)).all digC = true) := Lib.hid (all_more HP.out HB.out (by have := HC.out; unfold digC; simp; omega))
            go_wp2
            go_round
            case rel => exact ⟨k + 1, by omega, by go_num, HN⟩
            case measure => simp [intOf]; omega
      · obtain rfl : k = s.size := by omega
        have HD : Hid ((ls s).all digC = true) := Lib.hid (by have := HP.out; rwa [List.take_of_length_le (by rw [ls_len]; omega)] at this)
        have HPU := Lib.hid (parse64 HD.out (by intro h; have := HNT.out; rw [h] at this; cases this))
        obtain ⟨n, hn⟩ : ∃ n, numL 0 (ls s) = n := ⟨_, rfl⟩
        have HNN := Lib.hid hn
        clear hn
        by_cases hbig : n ≤ 18446744073709551615
        · have HPK := Lib.hid (show Lib.parseUintB 64 s.data.toList = .ok n by have := HPU.out; rw [HNN.out, if_pos hbig] at this; exact this)
          go_wp2_with fail
          refine (Tryz.strconv_ParseUint_10_at64_ok s (by omega) n HPK.out _).mono ?_
          rintro e w1 ⟨rfl, hw1⟩
          have hb1 : Below w.heap.size w w1 := by
            rcases hw1 with rfl | rfl
            · exact Below.refl _ _
            · exact Lib.bytesWorld_below _ _ _
          clear hw1
          by_cases hle : n ≤ most
          · have HF := Lib.hid (TensIs.some_ (tensO_ok HNT.out HD.out (most := most) (by rw [HNN.out]; exact hle)))
            have hz : (n : Int) ≤ (most : Int) := by omega
            go_wp2
            go_ret2
            exact ⟨by have := HF.out; rw [HNN.out] at this; exact this, hb1⟩
          · have HF := Lib.hid (TensIs.none_ (most := most) (tensO_big (l := ls s) (by rw [HNN.out]; omega)) n)
            have hz : ¬ (n : Int) ≤ (most : Int) := by omega
            go_wp2
            go_ret2
            exact ⟨HF.out, hb1⟩
        · have HPK := Lib.hid (show Lib.parseUintB 64 s.data.toList = .range by have := HPU.out; rw [HNN.out, if_neg hbig] at this; exact this)
          obtain ⟨ev, hev, hev2⟩ := HTB.out.er
          have HEV := Lib.hid hev
          have HEV2 := Lib.hid hev2
          clear hev hev2
          have HF := Lib.hid (TensIs.none_ (most := most) (tensO_big (l := ls s) (by rw [HNN.out]; omega)) 18446744073709551615)
          go_wp2_with fail
          refine (Tryz.strconv_ParseUint_10_at64_range s (by omega) HPK.out ev _ HEV.out HEV2.out).mono ?_
          rintro e w1 ⟨N, rfl, _, _, hb1⟩
          go_wp2
          go_ret2
          exact ⟨HF.out, hb1⟩
  · have hn2 : neat (ls s) = false := by simpa using hn
    have HN := Lib.hid (TensIs.none_ (most := most) (tensO_unneat hn2) 0)
    rw [hn2]
    clear hn hn2
    go_wp2
    go_ret2
    exact ⟨HN.out, Below.refl _ _⟩
end Go.Proofs.YtheaacliomfkoaaGreatDoor

/- A text cut at a byte: the library's words are the plain ones. -/
namespace Go.Proofs.YtheaacliomfkoaaGreatDoor

theorem cutB_found {c : UInt8} : ∀ {l : List UInt8}, (cutB c l).2.2 = true → l = (cutB c l).1 ++ c :: (cutB c l).2.1
  | [], h => by cases h
  | b :: l, h => by
    unfold cutB at h ⊢
    by_cases hb : b = c
    · rw [if_pos hb]; subst hb; rfl
    · rw [if_neg hb] at h ⊢
      have := cutB_found (l := l) h
      simp only [List.cons_append]
      rw [← this]
theorem cutB_miss {c : UInt8} : ∀ {l : List UInt8}, (cutB c l).2.2 = false → (cutB c l).1 = l ∧ (cutB c l).2.1 = []
  | [], _ => ⟨rfl, rfl⟩
  | b :: l, h => by
    unfold cutB at h ⊢
    by_cases hb : b = c
    · rw [if_pos hb] at h; cases h
    · rw [if_neg hb] at h ⊢
      obtain ⟨h1, h2⟩ := cutB_miss (l := l) h
      exact ⟨by simp only; rw [h1], h2⟩
theorem take_of {l a r : List UInt8} {c : UInt8} (h : l = a ++ c :: r) : l.take a.length = a := by rw [h]; simp
theorem drop_of {l a r : List UInt8} {c : UInt8} (h : l = a ++ c :: r) : l.drop (a.length + 1) = r := by rw [h, ← List.drop_drop, List.drop_left]; rfl
theorem index_one (c : UInt8) : ∀ l : List UInt8, Lib.index l [c] = if (cutB c l).2.2 = true then ((cutB c l).1.length : Int) else -1
  | [] => rfl
  | b :: l => by
    have ih := index_one c l
    unfold Lib.index cutB
    by_cases hb : b = c
    · subst hb
      simp [List.isPrefixOf]
    · have h1 : ([c] : List UInt8).isPrefixOf (b :: l) = false := by simp [List.isPrefixOf]; exact fun h => hb h.symm
      rw [h1, if_neg hb, ih]
      by_cases hf : (cutB c l).2.2 = true
      · simp only [hf, if_true]
        have : (((cutB c l).1.length : Int) == -1) = false := by rw [beq_eq_false_iff_ne]; omega
        simp [this]
      · simp [hf]
theorem cut_eq (c : UInt8) (l : List UInt8) : Lib.cut l [c] = cutB c l := by
  unfold Lib.cut
  rw [index_one]
  by_cases hf : (cutB c l).2.2 = true
  · have h := cutB_found hf
    have h2 : (0 : Int) ≤ ((cutB c l).1.length : Int) := by omega
    simp only [hf, if_true, if_pos h2, Int.toNat_natCast, List.length_singleton]
    rw [take_of h, drop_of h, ← hf]
  · have hf2 : (cutB c l).2.2 = false := by simpa using hf
    obtain ⟨h1, h2⟩ := cutB_miss hf2
    rw [if_neg hf, if_neg (by decide)]
    exact (Prod.ext h1 (Prod.ext h2 hf2)).symm
theorem pieces_ne (c : UInt8) : ∀ l, pieces c l ≠ []
  | [] => by simp [pieces]
  | b :: l => by
    unfold pieces
    split
    · simp
    · split <;> simp
theorem pieces_cut (c : UInt8) : ∀ l, pieces c l = if (cutB c l).2.2 = true then (cutB c l).1 :: pieces c (cutB c l).2.1 else [l]
  | [] => rfl
  | b :: l => by
    have ih := pieces_cut c l
    by_cases hb : b = c
    · subst hb
      simp [pieces, cutB]
    · have e : pieces c (b :: l) = match pieces c l with | [] => [[b]] | x :: r => (b :: x) :: r := by
        conv => lhs; unfold pieces
        rw [if_neg hb]
        rfl
      have e2 : cutB c (b :: l) = (b :: (cutB c l).1, (cutB c l).2.1, (cutB c l).2.2) := by
        conv => lhs; unfold cutB
        rw [if_neg hb]
      rw [e, e2, ih]
      by_cases hf : (cutB c l).2.2 = true
      · simp [hf]
      · simp [hf]
theorem cutB_len {c : UInt8} {l : List UInt8} (h : (cutB c l).2.2 = true) : (cutB c l).1.length + (cutB c l).2.1.length + 1 = l.length := by
  conv => rhs; rw [cutB_found h]
  simp; omega
theorem split_eq (c : UInt8) : ∀ (n : Nat) (l : List UInt8), l.length = n → Lib.splitK [c] 0 (Lib.count l [c]) l = pieces c l ∧ (pieces c l).length = Lib.count l [c] + 1 := by
  intro n
  induction n using Nat.strongRecOn with
  | ind n ih =>
    intro l hl
    have hi := index_one c l
    rw [pieces_cut]
    by_cases hf : (cutB c l).2.2 = true
    · rw [if_pos hf] at hi ⊢
      have hlen := cutB_len hf
      have h := cutB_found hf
      have hc := Lib.count_hit (s := l) (sub := [c]) (by simp) hi
      have e2 := drop_of h
      rw [List.length_singleton, e2] at hc
      obtain ⟨h1, h2⟩ := ih (cutB c l).2.1.length (by omega) (cutB c l).2.1 rfl
      refine ⟨?_, ?_⟩
      · rw [hc, Nat.add_comm]
        have : Lib.splitK [c] 0 (Lib.count (cutB c l).2.1 [c] + 1) l = l.take ((Lib.index l [c]).toNat + 0) :: Lib.splitK [c] 0 (Lib.count (cutB c l).2.1 [c]) (l.drop ((Lib.index l [c]).toNat + [c].length)) := by
          conv => lhs; unfold Lib.splitK
          rw [if_neg (by rw [hi, beq_iff_eq]; omega)]
        rw [this, hi, Int.toNat_natCast, List.length_singleton, e2, h1, Nat.add_zero, take_of h]
      · rw [List.length_cons, h2, hc]; omega
    · rw [if_neg hf] at hi ⊢
      rw [Lib.count_miss hi]
      exact ⟨rfl, rfl⟩
theorem split_ls (c : UInt8) (s : ByteArray) : (Lib.splitB ⟨#[c]⟩ 0 (Lib.countB s ⟨#[c]⟩) s).map ls = pieces c (ls s) := by
  have h := Lib.splitB_data ⟨#[c]⟩ 0 (Lib.countB s ⟨#[c]⟩) s
  exact h.trans (split_eq c _ _ rfl).1
theorem split_len (c : UInt8) (s : ByteArray) : (Lib.splitB ⟨#[c]⟩ 0 (Lib.countB s ⟨#[c]⟩) s).length = Lib.countB s ⟨#[c]⟩ + 1 := by
  have h := congrArg List.length (split_ls c s)
  rw [List.length_map] at h
  rw [h]
  exact (split_eq c _ _ rfl).2
/-- All pieces together are no longer than the text. -/
theorem pieces_le (c : UInt8) : ∀ (l : List UInt8), (pieces c l).length ≤ l.length + 1 ∧ ∀ x ∈ pieces c l, x.length ≤ l.length
  | [] => by simp [pieces]
  | b :: l => by
    obtain ⟨h1, h2⟩ := pieces_le c l
    unfold pieces
    split
    · refine ⟨by simp; omega, fun x hx => ?_⟩
      rcases List.mem_cons.1 hx with rfl | hx
      · simp
      · have := h2 x hx; simp; omega
    · have hne := pieces_ne c l
      match hp : pieces c l with
      | [] => exact absurd hp hne
      | y :: r =>
        rw [hp] at h1 h2
        refine ⟨by simp at h1 ⊢; omega, fun x hx => ?_⟩
        rcases List.mem_cons.1 hx with rfl | hx
        · have := h2 y (List.mem_cons_self ..); simp; omega
        · have := h2 x (List.mem_cons_of_mem _ hx); simp; omega
end Go.Proofs.YtheaacliomfkoaaGreatDoor

/- Small contracts of the layer of facts: names, plain texts, kinds. -/
namespace Go.Proofs.YtheaacliomfkoaaGreatDoor
open Go.RowKit

theorem fc_known (k : Int) (w : World) : Calls Tryz.prog 123 #[.int .i64 k] w fun e w' => e = .returned (.bool (decide (1 ≤ k ∧ k ≤ 18))) ∧ w = w' := by
  by_cases h1 : 1 ≤ k
  · go_enter Tryz.func123, Tryz.ntmps123
    go_wp2
    go_ret
    exact ⟨ret_b (by simp [h1]), rfl⟩
  · go_enter Tryz.func123, Tryz.ntmps123
    go_wp2
    go_ret
    exact ⟨ret_b (by simp; omega), rfl⟩
theorem fc_empty (s : ByteArray) (w : World) : Calls Tryz.prog 159 #[.string s] w fun e w' => e = .returned (.bool (ls s == [])) ∧ w = w' := by
  go_enter Tryz.func159, Tryz.ntmps159
  go_wp2
  go_ret
  exact ⟨ret_b (isEmpty_ls s), rfl⟩

set_option maxHeartbeats 1000000 in
theorem fc_plain (s : ByteArray) (w : World) (hs : s.size ≤ 1000000) : Calls Tryz.prog 157 #[.string s] w fun e w' => e = .returned (.bool (plainB (ls s))) ∧ w = w' := by
  go_enter Tryz.func157, Tryz.ntmps157
  go_wp2
  go_loop [3, 6] (fun _ iv => ∃ k : Nat, k ≤ s.size ∧ iv = .int .i64 k ∧ Hid (plainB ((ls s).take k) = true)) (fun _ iv => s.size - (intOf iv).toNat)
  case atStart => exact ⟨0, Nat.zero_le _, rfl, Lib.hid rfl⟩
  case round =>
    obtain ⟨k, hk, rfl, HP⟩ := hrel
    by_cases hlt : k < s.size
    · have hix := run_at (P := Tryz.prog) 9 Tryz.underlying9 s k hlt
      have hbd := byteAt_bd s k
      obtain ⟨b, hb, hcb⟩ := byte_some hlt
      have HB := Lib.hid hb
      have HC := Lib.hid hcb
      clear hb hcb
      generalize byteAt s k = c at *
      by_cases h1 : c < 32
      · have HF : Hid (plainB (ls s) = false) := Lib.hid (all_bad HB.out (by have := HC.out; simp; omega))
        go_wp2
        go_ret
        exact ⟨ret_b HF.out.symm, rfl⟩
      · by_cases h2 : 126 < c
        · have HF : Hid (plainB (ls s) = false) := Lib.hid (all_bad HB.out (by have := HC.out; simp; omega))
          go_wp2
          go_ret
          exact ⟨ret_b HF.out.symm, rfl⟩
        · have HN : Hid (plainB ((ls s).take (k + 1)) = true) := Lib.hid (all_more HP.out HB.out (by have := HC.out; simp; omega))
          go_wp2
          go_round
          case rel => exact ⟨k + 1, by omega, by go_num, HN⟩
          case measure => simp [intOf]; omega
    · obtain rfl : k = s.size := by omega
      have HF : Hid (plainB (ls s) = true) := Lib.hid (by have := HP.out; rwa [List.take_of_length_le (by rw [ls_len]; omega)] at this)
      go_wp2
      go_ret
      exact ⟨ret_b HF.out.symm, rfl⟩
end Go.Proofs.YtheaacliomfkoaaGreatDoor

/- A name: the program's and the reference's test are one; the reference's plain texts. -/
namespace Go.Proofs.YtheaacliomfkoaaGreatDoor
open Go.RowKit
theorem nameB_of {l : List UInt8} (h : l.all nameC = true) : nameB l = (!(l == []) && !(l == [45]) && decide (l.length ≤ 32)) := by unfold nameB; rw [h]; rfl
theorem nameB_bad {l : List UInt8} (h : l.all nameC = false) : nameB l = false := by unfold nameB; rw [h]; rfl
theorem toList_ls (s : ByteArray) : s.toList = ls s := by rw [ByteArray.toList_eq]; rfl

set_option linter.unusedVariables false in
set_option maxHeartbeats 4000000 in
theorem fc_isName (s : ByteArray) (w : World) (hs : s.size ≤ 1000000) : Calls Tryz.prog 154 #[.string s] w fun e w' => e = .returned (.bool (nameB (ls s))) ∧ w = w' := by
  go_enter Tryz.func154, Tryz.ntmps154
  go_wp2
  go_loop [3, 4, 7] (fun _ _ iv => ∃ k : Nat, k ≤ s.size ∧ iv = .int .i64 k ∧ Hid (((ls s).take k).all nameC = true)) (fun _ _ iv => s.size - (intOf iv).toNat)
  case atStart => exact ⟨0, Nat.zero_le _, rfl, Lib.hid rfl⟩
  case round =>
    obtain ⟨k, hk, rfl, HP⟩ := hrel
    by_cases hlt : k < s.size
    · have hix := run_at (P := Tryz.prog) 9 Tryz.underlying9 s k hlt
      have hbd := byteAt_bd s k
      obtain ⟨b, hb, hcb⟩ := byte_some hlt
      have HB := Lib.hid hb
      have HC := Lib.hid hcb
      clear hb hcb
      generalize byteAt s k = c at *
      have hcl : (c < 45) ∨ (c = 45) ∨ (c = 46) ∨ (c = 47) ∨ (48 ≤ c ∧ c ≤ 57) ∨ (58 ≤ c ∧ c < 95) ∨ (c = 95) ∨ (c = 96) ∨ (97 ≤ c ∧ c ≤ 122) ∨ (122 < c) := by omega
      rcases hcl with hc | hc | hc | hc | hc | hc | hc | hc | hc | hc
      · have HX : Hid (nameC b = false) := Lib.hid (by have := HC.out; unfold nameC; simp; omega)
        have t1 : c < 97 := by omega
        have t2 : ¬ 122 < c := by omega
        have t3 : c < 48 := by omega
        have t4 : ¬ 57 < c := by omega
        have t5 : (c == 46) = false := beq_eq_false_iff_ne.2 (by omega)
        have t5n : (c != 46) = true := bne_iff_ne.2 (by omega)
        have t6 : (c == 95) = false := beq_eq_false_iff_ne.2 (by omega)
        have t6n : (c != 95) = true := bne_iff_ne.2 (by omega)
        have t7 : (c == 45) = false := beq_eq_false_iff_ne.2 (by omega)
        have t7n : (c != 45) = true := bne_iff_ne.2 (by omega)
        have HF := Lib.hid (nameB_bad (all_bad HB.out HX.out))
        go_wp2
        go_ret
        exact ⟨ret_b HF.out.symm, rfl⟩
      · have HX : Hid (nameC b = true) := Lib.hid (by have := HC.out; unfold nameC; simp; omega)
        subst hc
        have HN := Lib.hid (all_more HP.out HB.out HX.out)
        go_wp2
        go_round
        case rel => exact ⟨k + 1, by omega, by go_num, HN⟩
        case measure => simp [intOf]; omega
      · have HX : Hid (nameC b = true) := Lib.hid (by have := HC.out; unfold nameC; simp; omega)
        subst hc
        have HN := Lib.hid (all_more HP.out HB.out HX.out)
        go_wp2
        go_round
        case rel => exact ⟨k + 1, by omega, by go_num, HN⟩
        case measure => simp [intOf]; omega
      · have HX : Hid (nameC b = false) := Lib.hid (by have := HC.out; unfold nameC; simp; omega)
        subst hc
        have HF := Lib.hid (nameB_bad (all_bad HB.out HX.out))
        go_wp2
        go_ret
        exact ⟨ret_b HF.out.symm, rfl⟩
      · have HX : Hid (nameC b = true) := Lib.hid (by have := HC.out; unfold nameC; simp; omega)
        have t1 : c < 97 := by omega
        have t2 : ¬ 122 < c := by omega
        have t3 : ¬ c < 48 := by omega
        have t4 : ¬ 57 < c := by omega
        have t5 : (c == 46) = false := beq_eq_false_iff_ne.2 (by omega)
        have t5n : (c != 46) = true := bne_iff_ne.2 (by omega)
        have t6 : (c == 95) = false := beq_eq_false_iff_ne.2 (by omega)
        have t6n : (c != 95) = true := bne_iff_ne.2 (by omega)
        have t7 : (c == 45) = false := beq_eq_false_iff_ne.2 (by omega)
        have t7n : (c != 45) = true := bne_iff_ne.2 (by omega)
        have HN := Lib.hid (all_more HP.out HB.out HX.out)
        go_wp2
        go_round
        case rel => exact ⟨k + 1, by omega, by go_num, HN⟩
        case measure => simp [intOf]; omega
      · have HX : Hid (nameC b = false) := Lib.hid (by have := HC.out; unfold nameC; simp; omega)
        have t1 : c < 97 := by omega
        have t2 : ¬ 122 < c := by omega
        have t3 : ¬ c < 48 := by omega
        have t4 : 57 < c := by omega
        have t5 : (c == 46) = false := beq_eq_false_iff_ne.2 (by omega)
        have t5n : (c != 46) = true := bne_iff_ne.2 (by omega)
        have t6 : (c == 95) = false := beq_eq_false_iff_ne.2 (by omega)
        have t6n : (c != 95) = true := bne_iff_ne.2 (by omega)
        have t7 : (c == 45) = false := beq_eq_false_iff_ne.2 (by omega)
        have t7n : (c != 45) = true := bne_iff_ne.2 (by omega)
        have HF := Lib.hid (nameB_bad (all_bad HB.out HX.out))
        go_wp2
        go_ret
        exact ⟨ret_b HF.out.symm, rfl⟩
      · have HX : Hid (nameC b = true) := Lib.hid (by have := HC.out; unfold nameC; simp; omega)
        subst hc
        have HN := Lib.hid (all_more HP.out HB.out HX.out)
        go_wp2
        go_round
        case rel => exact ⟨k + 1, by omega, by go_num, HN⟩
        case measure => simp [intOf]; omega
      · have HX : Hid (nameC b = false) := Lib.hid (by have := HC.out; unfold nameC; simp; omega)
        subst hc
        have HF := Lib.hid (nameB_bad (all_bad HB.out HX.out))
        go_wp2
        go_ret
        exact ⟨ret_b HF.out.symm, rfl⟩
      · have HX : Hid (nameC b = true) := Lib.hid (by have := HC.out; unfold nameC; simp; omega)
        have t1 : ¬ c < 97 := by omega
        have t2 : ¬ 122 < c := by omega
        have t3 : ¬ c < 48 := by omega
        have t4 : 57 < c := by omega
        have t5 : (c == 46) = false := beq_eq_false_iff_ne.2 (by omega)
        have t5n : (c != 46) = true := bne_iff_ne.2 (by omega)
        have t6 : (c == 95) = false := beq_eq_false_iff_ne.2 (by omega)
        have t6n : (c != 95) = true := bne_iff_ne.2 (by omega)
        have t7 : (c == 45) = false := beq_eq_false_iff_ne.2 (by omega)
        have t7n : (c != 45) = true := bne_iff_ne.2 (by omega)
        have HN := Lib.hid (all_more HP.out HB.out HX.out)
        go_wp2
        go_round
        case rel => exact ⟨k + 1, by omega, by go_num, HN⟩
        case measure => simp [intOf]; omega
      · have HX : Hid (nameC b = false) := Lib.hid (by have := HC.out; unfold nameC; simp; omega)
        have t1 : ¬ c < 97 := by omega
        have t2 : 122 < c := by omega
        have t3 : ¬ c < 48 := by omega
        have t4 : 57 < c := by omega
        have t5 : (c == 46) = false := beq_eq_false_iff_ne.2 (by omega)
        have t5n : (c != 46) = true := bne_iff_ne.2 (by omega)
        have t6 : (c == 95) = false := beq_eq_false_iff_ne.2 (by omega)
        have t6n : (c != 95) = true := bne_iff_ne.2 (by omega)
        have t7 : (c == 45) = false := beq_eq_false_iff_ne.2 (by omega)
        have t7n : (c != 45) = true := bne_iff_ne.2 (by omega)
        have HF := Lib.hid (nameB_bad (all_bad HB.out HX.out))
        go_wp2
        go_ret
        exact ⟨ret_b HF.out.symm, rfl⟩
    · obtain rfl : k = s.size := by omega
      have HF : Hid ((ls s).all nameC = true) := Lib.hid (by have := HP.out; rwa [List.take_of_length_le (by rw [ls_len]; omega)] at this)
      by_cases h0 : s.size = 0
      · have he : s.toList.isEmpty = true := by rw [isEmpty_ls, (nil_iff s).2 h0]; rfl
        have HR : Hid (nameB (ls s) = false) := Lib.hid (by rw [(nil_iff s).2 h0]; rfl)
        go_wp2
        go_ret
        exact ⟨ret_b HR.out.symm, rfl⟩
      have he : s.toList.isEmpty = false := by rw [isEmpty_ls]; simpa using fun h => h0 ((nil_iff s).1 h)
      by_cases h1 : ls s = [45]
      · have hd : (s.toList == [45]) = true := by rw [beq_ls]; exact decide_eq_true h1
        have HR : Hid (nameB (ls s) = false) := Lib.hid (by rw [h1]; rfl)
        clear h1
        go_wp2
        go_ret
        exact ⟨ret_b HR.out.symm, rfl⟩
      have hd : (s.toList == [45]) = false := by rw [beq_ls]; exact decide_eq_false h1
      have HR : Hid (nameB (ls s) = decide (s.size ≤ 32)) := Lib.hid (by
        rw [nameB_of HF.out, ← ls_len]
        have e1 : (ls s == []) = false := by simpa using fun h => h0 ((nil_iff s).1 h)
        have e2 : (ls s == [45]) = false := by simpa using h1
        rw [e1, e2]; rfl)
      clear h1
      by_cases hq : (s.size : Int) ≤ 32
      · go_wp2
        go_ret
        exact ⟨ret_b (by rw [HR.out]; simp; omega), rfl⟩
      · go_wp2
        go_ret
        exact ⟨ret_b (by rw [HR.out]; simp; omega), rfl⟩
end Go.Proofs.YtheaacliomfkoaaGreatDoor
