/- Out of: Yg0 Yg1 Yg2. -/
import Derived.Test.YtgepbkldgnjpfaaGreatDoorZgl
import Derived.Lib.ConvBytes
/- slip.code: a name (gen/mkcode.py). -/
namespace Go.Proofs.YtgepbkldgnjpfaaGreatDoor
open Go.RowKit

set_option linter.unusedVariables false in
set_option maxHeartbeats 4000000 in
theorem sl_code (s : ByteArray) (w : World) (hs : s.size ≤ 9223372036854775807) : Calls Tryz.prog 47 #[.string s] w fun e w' => e = .returned (.bool (nameB (ls s))) ∧ Below w.heap.size w w' := by
  have hcv : ∀ W, (convert 9 151 (.string s)).run Tryz.prog W = .ok (.slice (some ⟨W.heap.size, 0, none⟩) s.size (grownCap W s.size 0 5)) (Lib.bytesWorld W 5 s) := fun W => Lib.run_convert_string_bytes W 9 151 5 s Tryz.underlying9 Tryz.underlying151 Tryz.underlying5
  have HBD : Hid (∀ k, byteAt s k = byteAt s k) := Lib.hid fun _ => rfl
  by_cases h0 : s.size = 0
  · have he : s.toList.isEmpty = true := by rw [isEmpty_ls, (nil_iff s).2 h0]; rfl
    have HR : Hid (nameB (ls s) = false) := Lib.hid (by rw [(nil_iff s).2 h0]; rfl)
    clear hcv
    go_enter Tryz.func47, Tryz.ntmps47
    go_wp2
    go_ret
    exact ⟨ret_b HR.out.symm, Below.refl _ _⟩
  have he : s.toList.isEmpty = false := by rw [isEmpty_ls]; simpa using fun h => h0 ((nil_iff s).1 h)
  by_cases h1 : ls s = [45]
  · have hd : (s.toList == [45]) = true := by rw [beq_ls]; exact decide_eq_true h1
    have HR : Hid (nameB (ls s) = false) := Lib.hid (by rw [h1]; rfl)
    clear h1 hcv
    go_enter Tryz.func47, Tryz.ntmps47
    go_wp2
    go_ret
    exact ⟨ret_b HR.out.symm, Below.refl _ _⟩
  have hd : (s.toList == [45]) = false := by rw [beq_ls]; exact decide_eq_false h1
  by_cases h2 : (32 : Int) < (s.size : Int)
  · have d2 : decide ((32 : Int) < (s.size : Int)) = true := decide_eq_true h2
    have HR : Hid (nameB (ls s) = false) := Lib.hid (by
      unfold nameB
      have : decide ((ls s).length ≤ 32) = false := decide_eq_false (by rw [ls_len]; omega)
      rw [this, Bool.and_false])
    clear h1 h2 hcv
    go_enter Tryz.func47, Tryz.ntmps47
    go_wp2
    go_ret
    exact ⟨ret_b HR.out.symm, Below.refl _ _⟩
  have d2 : decide ((32 : Int) < (s.size : Int)) = false := decide_eq_false h2
  have HFN : Hid ((ls s).all nameC = true → nameB (ls s) = true) := Lib.hid fun h => by
    rw [nameB_of h]
    have e1 : (ls s == []) = false := by simpa using fun h => h0 ((nil_iff s).1 h)
    have e2 : (ls s == [45]) = false := by simpa using h1
    rw [e1, e2, decide_eq_true (by rw [ls_len]; omega)]
    rfl
  have hsz : s.size ≤ 1000000 := by omega
  clear h0 h1 h2
  obtain ⟨wz, hwz⟩ : ∃ x, Lib.bytesWorld w 5 s = x := ⟨_, rfl⟩
  obtain ⟨cap, hcap⟩ : ∃ x, grownCap w s.size 0 5 = x := ⟨_, rfl⟩
  obtain ⟨bb, hbb⟩ : ∃ x, w.heap.size = x := ⟨_, rfl⟩
  have HBY : Hid (∀ j, j < s.size → wz.cell? ⟨bb, j, none⟩ = some (.int .u8 (byteAt s j))) := Lib.hid fun j hj => by rw [← hwz, ← hbb]; exact Lib.bytesWorld_cell w 5 s j hj
  have HBW : Hid (Below w.heap.size w wz) := Lib.hid (by rw [← hwz]; exact Lib.bytesWorld_below _ _ _)
  go_enter Tryz.func47, Tryz.ntmps47
  go_wp2
  clear hwz hcap hbb hcv HBD
  go_loopw [19] (fun iv wr => ∃ k : Nat, k ≤ s.size ∧ iv = .int .i64 k ∧ Hid (((ls s).take k).all nameC = true) ∧ wz = wr) (fun iv _ => s.size - (intOf iv).toNat)
  case atStart => exact ⟨0, Nat.zero_le _, rfl, Lib.hid rfl, rfl⟩
  case round =>
    obtain ⟨k, hk, rfl, HP, rfl⟩ := hrel
    by_cases hlt : k < s.size
    · have B0 := HBY.out k hlt
      have hbd := byteAt_bd s k
      obtain ⟨b, hb, hcb⟩ := byte_some hlt
      have HB := Lib.hid hb
      have HC := Lib.hid hcb
      clear hb hcb
      generalize byteAt s k = c at *
      have hcl : (c < 45) ∨ (c = 45) ∨ (c = 46) ∨ (c = 47) ∨ (48 ≤ c ∧ c ≤ 57) ∨ (58 ≤ c ∧ c < 95) ∨ (c = 95) ∨ (c = 96) ∨ (97 ≤ c ∧ c ≤ 122) ∨ (122 < c) := by omega
      rcases hcl with hc | hc | hc | hc | hc | hc | hc | hc | hc | hc
      · have HX : Hid (nameC b = false) := Lib.hid (by have := HC.out; unfold nameC; simp; omega)
        have t0 : decide ((97 : Int) ≤ c) = false := decide_eq_false (by omega)
        have t1 : decide (c ≤ 122) = true := decide_eq_true (by omega)
        have t2 : decide ((48 : Int) ≤ c) = false := decide_eq_false (by omega)
        have t3 : decide (c ≤ 57) = true := decide_eq_true (by omega)
        have t4 : (c == 46) = false := beq_eq_false_iff_ne.2 (by omega)
        have t5 : (c == 95) = false := beq_eq_false_iff_ne.2 (by omega)
        have t6 : (c == 45) = false := beq_eq_false_iff_ne.2 (by omega)
        have HF := Lib.hid (nameB_bad (all_bad HB.out HX.out))
        go_wp2
        go_ret
        exact ⟨ret_b HF.out.symm, HBW.out⟩
      · have HX : Hid (nameC b = true) := Lib.hid (by have := HC.out; unfold nameC; simp; omega)
        subst hc
        have HN := Lib.hid (all_more HP.out HB.out HX.out)
        go_wp2
        exact ⟨⟨k + 1, by omega, by go_num, HN, trivial⟩, by simp [intOf]; omega⟩
      · have HX : Hid (nameC b = true) := Lib.hid (by have := HC.out; unfold nameC; simp; omega)
        subst hc
        have HN := Lib.hid (all_more HP.out HB.out HX.out)
        go_wp2
        exact ⟨⟨k + 1, by omega, by go_num, HN, trivial⟩, by simp [intOf]; omega⟩
      · have HX : Hid (nameC b = false) := Lib.hid (by have := HC.out; unfold nameC; simp; omega)
        subst hc
        have HF := Lib.hid (nameB_bad (all_bad HB.out HX.out))
        go_wp2
        go_ret
        exact ⟨ret_b HF.out.symm, HBW.out⟩
      · have HX : Hid (nameC b = true) := Lib.hid (by have := HC.out; unfold nameC; simp; omega)
        have t0 : decide ((97 : Int) ≤ c) = false := decide_eq_false (by omega)
        have t1 : decide (c ≤ 122) = true := decide_eq_true (by omega)
        have t2 : decide ((48 : Int) ≤ c) = true := decide_eq_true (by omega)
        have t3 : decide (c ≤ 57) = true := decide_eq_true (by omega)
        have t4 : (c == 46) = false := beq_eq_false_iff_ne.2 (by omega)
        have t5 : (c == 95) = false := beq_eq_false_iff_ne.2 (by omega)
        have t6 : (c == 45) = false := beq_eq_false_iff_ne.2 (by omega)
        have HN := Lib.hid (all_more HP.out HB.out HX.out)
        go_wp2
        exact ⟨⟨k + 1, by omega, by go_num, HN, trivial⟩, by simp [intOf]; omega⟩
      · have HX : Hid (nameC b = false) := Lib.hid (by have := HC.out; unfold nameC; simp; omega)
        have t0 : decide ((97 : Int) ≤ c) = false := decide_eq_false (by omega)
        have t1 : decide (c ≤ 122) = true := decide_eq_true (by omega)
        have t2 : decide ((48 : Int) ≤ c) = true := decide_eq_true (by omega)
        have t3 : decide (c ≤ 57) = false := decide_eq_false (by omega)
        have t4 : (c == 46) = false := beq_eq_false_iff_ne.2 (by omega)
        have t5 : (c == 95) = false := beq_eq_false_iff_ne.2 (by omega)
        have t6 : (c == 45) = false := beq_eq_false_iff_ne.2 (by omega)
        have HF := Lib.hid (nameB_bad (all_bad HB.out HX.out))
        go_wp2
        go_ret
        exact ⟨ret_b HF.out.symm, HBW.out⟩
      · have HX : Hid (nameC b = true) := Lib.hid (by have := HC.out; unfold nameC; simp; omega)
        subst hc
        have HN := Lib.hid (all_more HP.out HB.out HX.out)
        go_wp2
        exact ⟨⟨k + 1, by omega, by go_num, HN, trivial⟩, by simp [intOf]; omega⟩
      · have HX : Hid (nameC b = false) := Lib.hid (by have := HC.out; unfold nameC; simp; omega)
        subst hc
        have HF := Lib.hid (nameB_bad (all_bad HB.out HX.out))
        go_wp2
        go_ret
        exact ⟨ret_b HF.out.symm, HBW.out⟩
      · have HX : Hid (nameC b = true) := Lib.hid (by have := HC.out; unfold nameC; simp; omega)
        have t0 : decide ((97 : Int) ≤ c) = true := decide_eq_true (by omega)
        have t1 : decide (c ≤ 122) = true := decide_eq_true (by omega)
        have t2 : decide ((48 : Int) ≤ c) = true := decide_eq_true (by omega)
        have t3 : decide (c ≤ 57) = false := decide_eq_false (by omega)
        have t4 : (c == 46) = false := beq_eq_false_iff_ne.2 (by omega)
        have t5 : (c == 95) = false := beq_eq_false_iff_ne.2 (by omega)
        have t6 : (c == 45) = false := beq_eq_false_iff_ne.2 (by omega)
        have HN := Lib.hid (all_more HP.out HB.out HX.out)
        go_wp2
        exact ⟨⟨k + 1, by omega, by go_num, HN, trivial⟩, by simp [intOf]; omega⟩
      · have HX : Hid (nameC b = false) := Lib.hid (by have := HC.out; unfold nameC; simp; omega)
        have t0 : decide ((97 : Int) ≤ c) = true := decide_eq_true (by omega)
        have t1 : decide (c ≤ 122) = false := decide_eq_false (by omega)
        have t2 : decide ((48 : Int) ≤ c) = true := decide_eq_true (by omega)
        have t3 : decide (c ≤ 57) = false := decide_eq_false (by omega)
        have t4 : (c == 46) = false := beq_eq_false_iff_ne.2 (by omega)
        have t5 : (c == 95) = false := beq_eq_false_iff_ne.2 (by omega)
        have t6 : (c == 45) = false := beq_eq_false_iff_ne.2 (by omega)
        have HF := Lib.hid (nameB_bad (all_bad HB.out HX.out))
        go_wp2
        go_ret
        exact ⟨ret_b HF.out.symm, HBW.out⟩
    · obtain rfl : k = s.size := by omega
      have HF := Lib.hid (HFN.out (by have := HP.out; rwa [List.take_of_length_le (by rw [ls_len]; omega)] at this))
      go_wp2
      go_ret
      exact ⟨ret_b HF.out.symm, HBW.out⟩
end Go.Proofs.YtgepbkldgnjpfaaGreatDoor

/- slip.less, slip.line. -/
namespace Go.Proofs.YtgepbkldgnjpfaaGreatDoor
open Go.RowKit Go.Sort Go.BigFrame

/-- A line of a slip: its part, its code, its amount. -/
abbrev Li := Int × ByteArray × Int
def encLi (x : Li) : List Value := [.int .i64 x.1, .string x.2.1, .int .i64 x.2.2]
theorem encLi_len (x : Li) : (encLi x).length = 3 := rfl
/-- Does a line stand ahead of another one? -/
def lessB (a b : Li) : Bool := decide (a.1 < b.1) || (decide (a.1 = b.1) && Op.bytesLess (ls a.2.1) (ls b.2.1))
set_option maxHeartbeats 1000000 in
theorem sl_less (p q : Int) (s t : ByteArray) (c d : Int) (w : World) : Calls Tryz.prog 24 #[.agg #[.int .i64 p, .string s, .int .i64 c], .agg #[.int .i64 q, .string t, .int .i64 d]] w fun e w' => e = .returned (.bool (lessB (p, s, c) (q, t, d))) ∧ Below w.heap.size w w' := by
  obtain ⟨r, hr⟩ : ∃ r, lessB (p, s, c) (q, t, d) = r := ⟨_, rfl⟩
  rw [hr]
  have HR : Hid (r = (decide (p < q) || (decide (p = q) && Op.bytesLess s.toList t.toList))) := Lib.hid (by rw [← hr, toList_ls, toList_ls]; rfl)
  clear hr
  have HB : Hid (Below w.heap.size w ((w.alloc (.cells #[.int .i64 p, .string s, .int .i64 c] 44)).alloc (.cells #[.int .i64 q, .string t, .int .i64 d] 44))) := Lib.hid (((Grows.of_alloc _ _).alloc _).below)
  go_enter Tryz.func24, Tryz.ntmps24
  by_cases h1 : p < q
  · have d1 : decide (p < q) = true := decide_eq_true h1
    have HE : Hid (r = true) := Lib.hid (by rw [HR.out, d1]; rfl)
    clear h1
    go_wp2
    go_ret
    rw [HE.out]
    exact ⟨rfl, HB.out⟩
  have d1 : decide (p < q) = false := decide_eq_false h1
  by_cases h2 : p = q
  · subst h2
    cases hb : Op.bytesLess s.toList t.toList with
    | true =>
      have HE : Hid (r = true) := Lib.hid (by rw [HR.out, d1, hb]; simp)
      clear h1
      go_wp2
      go_ret
      rw [HE.out]
      exact ⟨rfl, HB.out⟩
    | false =>
      have HE : Hid (r = false) := Lib.hid (by rw [HR.out, d1, hb]; simp)
      clear h1
      go_wp2
      go_ret
      rw [HE.out]
      exact ⟨rfl, HB.out⟩
  · have b2 : (p == q) = false := beq_eq_false_iff_ne.2 h2
    have HE : Hid (r = false) := Lib.hid (by rw [HR.out, d1, decide_eq_false h2]; rfl)
    clear h1 h2
    go_wp2
    go_ret
    rw [HE.out]
    exact ⟨rfl, HB.out⟩
/-- What is wrong with a line. -/
def linE (x : Li) : Int := if x.1 < 0 ∨ 7 ≤ x.1 then 11 else if nameB (ls x.2.1) = false then 12 else if x.2.2 = 0 then 22 else if fitB x.2.2 = false then 9 else 0
set_option maxHeartbeats 1000000 in
theorem sl_line (p : Int) (s : ByteArray) (c : Int) (w : World) (hs : s.size ≤ 9223372036854775807) : Calls Tryz.prog 23 #[.agg #[.int .i64 p, .string s, .int .i64 c]] w fun e w' => e = .returned (.int .i64 (linE (p, s, c))) ∧ Below w.heap.size w w' := by
  obtain ⟨r, hr⟩ : ∃ r, linE (p, s, c) = r := ⟨_, rfl⟩
  obtain ⟨nm, hnm⟩ : ∃ r, nameB (ls s) = r := ⟨_, rfl⟩
  obtain ⟨fc, hfc⟩ : ∃ r, fitB c = r := ⟨_, rfl⟩
  rw [hr]
  have HR : Hid (r = if p < 0 ∨ 7 ≤ p then 11 else if nm = false then 12 else if c = 0 then 22 else if fc = false then 9 else 0) := Lib.hid (by rw [← hr, ← hnm, ← hfc]; rfl)
  have HN : Hid (∀ W, Calls Tryz.prog 47 #[.string s] W fun e w' => e = .returned (.bool nm) ∧ Below W.heap.size W w') := Lib.hid fun W => by rw [← hnm]; exact sl_code s W hs
  have HF : Hid (∀ W, Calls Tryz.prog 22 #[.int .i64 c] W fun e w' => e = .returned (.bool fc) ∧ W = w') := Lib.hid fun W => by rw [← hfc]; exact ce_fit c W
  obtain ⟨fb, hfb⟩ : ∃ x, w.heap.size = x := ⟨_, rfl⟩
  obtain ⟨wa, hwa⟩ : ∃ x, w.alloc (.cells #[.int .i64 p, .string s, .int .i64 c] 44) = x := ⟨_, rfl⟩
  have hb0 : Bk fb 44 #[.int .i64 p, .string s, .int .i64 c] wa := by rw [← hwa, ← hfb]; exact Bk.new _ _ _
  have HBA : Hid (Below w.heap.size w wa) := Lib.hid (by rw [← hwa]; exact bAlloc w _)
  have C0 : wa.cell? ⟨fb, 0, none⟩ = some (.int .i64 p) := hb0.cell 0
  have C1 : wa.cell? ⟨fb, 1, none⟩ = some (.string s) := hb0.cell 1
  have hlt := hb0.lt
  have HB0 := Lib.hid hb0
  clear hr hnm hfc hb0 hs
  go_enter Tryz.func23, Tryz.ntmps23
  go_upto_region 1 with fail
  clear hwa hfb
  by_cases h1 : p < 0
  · have d1 : decide (p < (0 : Int)) = true := decide_eq_true h1
    have HE : Hid (r = 11) := Lib.hid (by rw [HR.out, if_pos (Or.inl h1)])
    clear h1
    go_wp2
    go_ret
    rw [HE.out]
    exact ⟨rfl, HBA.out⟩
  have d1 : decide (p < (0 : Int)) = false := decide_eq_false h1
  by_cases h2 : 7 ≤ p
  · have d2 : decide ((7 : Int) ≤ p) = true := decide_eq_true h2
    have HE : Hid (r = 11) := Lib.hid (by rw [HR.out, if_pos (Or.inr h2)])
    clear h1 h2
    go_wp2
    go_ret
    rw [HE.out]
    exact ⟨rfl, HBA.out⟩
  have d2 : decide ((7 : Int) ≤ p) = false := decide_eq_false h2
  have HR1 : Hid (r = if nm = false then 12 else if c = 0 then 22 else if fc = false then 9 else 0) := Lib.hid (by rw [HR.out, if_neg (by omega)])
  clear h1 h2 HR
  go_wp2_with fail
  refine (HN.out _).mono ?_
  rintro e w1 ⟨rfl, hb1⟩
  have HB1 := Lib.hid (bTrans HBA.out hb1)
  have D2 : w1.cell? ⟨fb, 2, none⟩ = some (.int .i64 c) := (bkBel HB0.out hb1).cell 2
  clear hb1 C0 C1 hlt
  cases nm with
  | false =>
    have HE : Hid (r = 12) := Lib.hid (by rw [HR1.out, if_pos rfl])
    go_wp2
    go_ret
    rw [HE.out]
    exact ⟨rfl, HB1.out⟩
  | true =>
  by_cases h3 : c = 0
  · have HE : Hid (r = 22) := Lib.hid (by rw [HR1.out, if_neg (by simp), if_pos h3])
    have b3 : (c == 0) = true := beq_iff_eq.2 h3
    clear h3
    go_wp2
    go_ret
    rw [HE.out]
    exact ⟨rfl, HB1.out⟩
  have b3 : (c == 0) = false := beq_eq_false_iff_ne.2 h3
  have HR2 : Hid (r = if fc = false then 9 else 0) := Lib.hid (by rw [HR1.out, if_neg (by simp), if_neg h3])
  clear h3
  go_wp2_with fail
  refine (HF.out _).mono ?_
  rintro e w2 ⟨rfl, rfl⟩
  cases fc with
  | false =>
    have HE : Hid (r = 9) := Lib.hid (by rw [HR2.out, if_pos rfl])
    go_wp2
    go_ret
    rw [HE.out]
    exact ⟨rfl, HB1.out⟩
  | true =>
    have HE : Hid (r = 0) := Lib.hid (by rw [HR2.out, if_neg (by simp)])
    go_wp2
    go_ret
    rw [HE.out]
    exact ⟨rfl, HB1.out⟩
end Go.Proofs.YtgepbkldgnjpfaaGreatDoor

/- slip.Check. -/
namespace Go.Proofs.YtgepbkldgnjpfaaGreatDoor
open Go.RowKit Go.Sort Go.BigFrame

/-- What is wrong with lines behind another one. -/
def slpGo : Option Li → List Li → Int
  | _, [] => 0
  | o, x :: r => if linE x ≠ 0 then linE x else match o with
    | none => slpGo (some x) r
    | some a => if a.1 = x.1 ∧ a.2.1 = x.2.1 then 7 else if lessB a x = false then 8 else slpGo (some x) r
/-- What is wrong with a slip. -/
def slpE (y i : Int) (l : List Li) : Int := if y < 1900 ∨ 2199 < y ∨ i < 1 ∨ 400 < i then 2 else if 448 < l.length then 5 else slpGo none l
theorem ba_eq {s t : ByteArray} (h : (s.toList == t.toList) = true) : s = t := by
  have := eq_of_beq h
  rw [toList_ls, toList_ls] at this
  exact ByteArray.ext (Array.toList_inj.1 this)
theorem ba_ne {s t : ByteArray} (h : (s.toList == t.toList) = false) : s ≠ t := by
  rintro rfl
  simp at h
/-- What lies ahead of a line. -/
def aheadO (l : List Li) (n : Nat) : Option Li := if n = 0 then none else l[n - 1]?
set_option maxHeartbeats 4000000 in
set_option maxRecDepth 100000 in
theorem sl_Check (y i : Int) (l : List Li) (A : Option Addr) (cap : Nat) (w : World) (hn : l.length ≤ 1000000) (hsz : ∀ x ∈ l, x.2.1.size ≤ 9223372036854775807) (hs : Sl encLi 3 w w.heap.size A l) :
    Calls Tryz.prog 13 #[.agg #[.int .i64 y, .int .i64 i, .slice A l.length cap]] w fun e w' => e = .returned (.int .i64 (slpE y i l)) ∧ Below w.heap.size w w' := by
  obtain ⟨R, hR⟩ : ∃ R, slpE y i l = R := ⟨_, rfl⟩
  rw [hR]
  have HR : Hid (R = if y < 1900 ∨ 2199 < y ∨ i < 1 ∨ 400 < i then 2 else if 448 < l.length then 5 else slpGo none l) := Lib.hid hR.symm
  obtain ⟨sb, hsb⟩ : ∃ x, w.heap.size = x := ⟨_, rfl⟩
  obtain ⟨wa, hwa⟩ : ∃ x, w.alloc (.cells #[.int .i64 y, .int .i64 i, .slice A l.length cap] 41) = x := ⟨_, rfl⟩
  have hb0 : Bk sb 41 #[.int .i64 y, .int .i64 i, .slice A l.length cap] wa := by rw [← hwa, ← hsb]; exact Bk.new _ _ _
  have HBA : Hid (Below w.heap.size w wa) := Lib.hid (by rw [← hwa]; exact bAlloc w _)
  have S0 : wa.cell? ⟨sb, 0, none⟩ = some (.int .i64 y) := hb0.cell 0
  have S1 : wa.cell? ⟨sb, 1, none⟩ = some (.int .i64 i) := hb0.cell 1
  have S2 : wa.cell? ⟨sb, 2, none⟩ = some (.slice A l.length cap) := hb0.cell 2
  have hlts := hb0.lt
  have HB0 := Lib.hid hb0
  have HS := Lib.hid hs
  have HSZ := Lib.hid hsz
  clear hR hb0 hs hsz
  go_enter Tryz.func13, Tryz.ntmps13
  go_upto_region 1 with fail
  clear hwa hsb
  by_cases h1 : y < 1900
  · have d1 : decide (y < (1900 : Int)) = true := decide_eq_true h1
    have HE : Hid (R = 2) := Lib.hid (by rw [HR.out, if_pos (by omega)])
    clear h1
    go_wp2
    go_ret
    rw [HE.out]
    exact ⟨rfl, HBA.out⟩
  have d1 : decide (y < (1900 : Int)) = false := decide_eq_false h1
  by_cases h2 : 2199 < y
  · have d2 : decide ((2199 : Int) < y) = true := decide_eq_true h2
    have HE : Hid (R = 2) := Lib.hid (by rw [HR.out, if_pos (by omega)])
    clear h1 h2
    go_wp2
    go_ret
    rw [HE.out]
    exact ⟨rfl, HBA.out⟩
  have d2 : decide ((2199 : Int) < y) = false := decide_eq_false h2
  by_cases h3 : i < 1
  · have d3 : decide (i < (1 : Int)) = true := decide_eq_true h3
    have HE : Hid (R = 2) := Lib.hid (by rw [HR.out, if_pos (by omega)])
    clear h1 h2 h3
    go_wp2
    go_ret
    rw [HE.out]
    exact ⟨rfl, HBA.out⟩
  have d3 : decide (i < (1 : Int)) = false := decide_eq_false h3
  by_cases h4 : 400 < i
  · have d4 : decide ((400 : Int) < i) = true := decide_eq_true h4
    have HE : Hid (R = 2) := Lib.hid (by rw [HR.out, if_pos (by omega)])
    clear h1 h2 h3 h4
    go_wp2
    go_ret
    rw [HE.out]
    exact ⟨rfl, HBA.out⟩
  have d4 : decide ((400 : Int) < i) = false := decide_eq_false h4
  by_cases h5 : 448 < l.length
  · have d5 : decide ((448 : Int) < (l.length : Int)) = true := decide_eq_true (by omega)
    have HE : Hid (R = 5) := Lib.hid (by rw [HR.out, if_neg (by omega), if_pos h5])
    clear h1 h2 h3 h4 h5
    go_wp2
    go_ret
    rw [HE.out]
    exact ⟨rfl, HBA.out⟩
  have d5 : decide ((448 : Int) < (l.length : Int)) = false := decide_eq_false (by omega)
  have HA0 : Hid (slpGo none l = R) := Lib.hid (by rw [HR.out, if_neg (by omega), if_neg h5])
  clear h1 h2 h3 h4 h5 HR
  go_wp2
  go_loopg [32] l.length (fun k iv wr => ∃ n : Nat, n + k = l.length ∧ iv = .int .i64 n ∧ Hid (slpGo (aheadO l n) (l.drop n) = R) ∧ Hid (Below w.heap.size w wr) ∧ Hid (Bk sb 41 #[.int .i64 y, .int .i64 i, .slice A l.length cap] wr))
  case atStart => exact ⟨0, Nat.zero_add _, rfl, HA0, HBA, HB0⟩
  case round =>
    obtain ⟨n, hn1, rfl, HA, HB, HK⟩ := hrel
    clear S0 S1 S2 hlts d1 d2 d3 d4 d5
    by_cases hlt : n < l.length
    · obtain ⟨b, off, rfl, hB, hc⟩ := HS.out (by intro h; simp [h] at hlt)
      obtain ⟨⟨p, s, c⟩, hx⟩ : ∃ x, l[n]? = some x := ⟨_, List.getElem?_eq_getElem hlt⟩
      have C0 : wr.cell? ⟨b, off + n * 3, none⟩ = some (.int .i64 p) := (HB.out.cell (p := ⟨b, off + n * 3, none⟩) hB).trans (by simpa using hc n _ hx 0 _ rfl)
      have C1 : wr.cell? ⟨b, off + n * 3 + 1, none⟩ = some (.string s) := (HB.out.cell (p := ⟨b, off + n * 3 + 1, none⟩) hB).trans (hc n _ hx 1 _ rfl)
      have C2 : wr.cell? ⟨b, off + n * 3 + 2, none⟩ = some (.int .i64 c) := (HB.out.cell (p := ⟨b, off + n * 3 + 2, none⟩) hB).trans (hc n _ hx 2 _ rfl)
      have hdrop : l.drop n = (p, s, c) :: l.drop (n + 1) := by
        rw [List.drop_eq_getElem_cons hlt]
        congr 1
        have := List.getElem?_eq_getElem hlt
        rw [hx] at this
        exact (Option.some.inj this).symm
      obtain ⟨le, hle⟩ : ∃ y, linE (p, s, c) = y := ⟨_, rfl⟩
      have hssz : s.size ≤ 9223372036854775807 := HSZ.out _ (List.mem_of_getElem? hx)
      have HLN : Hid (∀ W, Calls Tryz.prog 23 #[.agg #[.int .i64 p, .string s, .int .i64 c]] W fun e w' => e = .returned (.int .i64 le) ∧ Below W.heap.size W w') := Lib.hid fun W => by rw [← hle]; exact sl_line p s c W hssz
      have HD : Hid (R = if le ≠ 0 then le else match aheadO l n with
        | none => slpGo (some (p, s, c)) (l.drop (n + 1))
        | some a => if a.1 = p ∧ a.2.1 = s then 7 else if lessB a (p, s, c) = false then 8 else slpGo (some (p, s, c)) (l.drop (n + 1))) := Lib.hid (by rw [← HA.out, hdrop, ← hle]; rfl)
      have HNX : Hid (aheadO l (n + 1) = some (p, s, c)) := Lib.hid (by unfold aheadO; rw [if_neg (by omega)]; exact hx)
      have HCC := Lib.hid hc
      obtain ⟨fb, hfb⟩ : ∃ y, wr.heap.size = y := ⟨_, rfl⟩
      obtain ⟨wb, hwb⟩ : ∃ y, wr.alloc (.cells #[.int .i64 p, .string s, .int .i64 c] 44) = y := ⟨_, rfl⟩
      have hb1 : Bk fb 44 #[.int .i64 p, .string s, .int .i64 c] wb := by rw [← hwb, ← hfb]; exact Bk.new _ _ _
      have HB1 : Hid (Below w.heap.size w wb) := Lib.hid (HB.out.trans (by rw [← hwb]; exact (bAlloc wr _).mono HB.out.size))
      have HK1 := Lib.hid (HK.out.grows (by rw [← hwb]; exact Grows.of_alloc wr _ : Grows wr wb))
      have D0 : wb.cell? ⟨fb, 0, none⟩ = some (.int .i64 p) := hb1.cell 0
      have D1 : wb.cell? ⟨fb, 1, none⟩ = some (.string s) := hb1.cell 1
      have D2 : wb.cell? ⟨fb, 2, none⟩ = some (.int .i64 c) := hb1.cell 2
      have hltb := hb1.lt
      have HBL := Lib.hid hb1
      have HWF := Lib.hid (And.intro hfb hwb)
      clear hc hx hdrop hle hssz HA hfb hwb hb1 HB HK
      go_upto_region 9 with fail
      rw [HWF.out.1, HWF.out.2]
      clear HWF C0 C1 C2
      go_wp2_with fail
      refine (HLN.out _).mono ?_
      rintro e w1 ⟨rfl, hb1⟩
      have HB2 := Lib.hid (HB1.out.trans (hb1.mono HB1.out.size))
      have HK2 := Lib.hid (bkBel HK1.out hb1)
      have HL2 := Lib.hid (bkBel HBL.out hb1)
      clear hb1 D0 D1 D2 hltb HB1 HK1 HBL HLN
      by_cases hle : le = 0
      case neg =>
        have nz : (le != 0) = true := by simpa using hle
        have HE : Hid (R = le) := Lib.hid (by rw [HD.out, if_pos hle])
        clear hle
        go_wp2
        go_ret
        rw [HE.out]
        exact ⟨rfl, HB2.out⟩
      subst hle
      by_cases h0 : n = 0
      · subst h0
        have HE : Hid (slpGo (aheadO l (0 + 1)) (l.drop (0 + 1)) = R) := Lib.hid (by rw [HNX.out, HD.out]; rfl)
        go_wp2
        go_roundg (l.length - (0 + 1))
        case measure => omega
        case rel => exact ⟨0 + 1, by omega, by go_num, HE, HB2, HK2⟩
      · obtain ⟨⟨p', s', c'⟩, hx'⟩ : ∃ x, l[n - 1]? = some x := ⟨_, List.getElem?_eq_getElem (by omega)⟩
        have HAH : Hid (aheadO l n = some (p', s', c')) := Lib.hid (by unfold aheadO; rw [if_neg h0]; exact hx')
        have HD2 : Hid (R = if p' = p ∧ s' = s then 7 else if lessB (p', s', c') (p, s, c) = false then 8 else slpGo (some (p, s, c)) (l.drop (n + 1))) := Lib.hid (by rw [HD.out, if_neg (by simp), HAH.out])
        have b0 : ((n : Int) == 0) = false := beq_eq_false_iff_ne.2 (by omega)
        have v1 : IntKind.i64.wrap ((n : Int) - 1) = ((n - 1 : Nat) : Int) := by rw [IntWalk.i64_in _ (by omega)]; omega
        obtain ⟨m, hm⟩ : ∃ m, n - 1 = m := ⟨_, rfl⟩
        rw [hm] at v1 hx'
        have hmn : m < l.length := by omega
        have A0 : w1.cell? ⟨b, off + m * 3, none⟩ = some (.int .i64 p') := (HB2.out.cell (p := ⟨b, off + m * 3, none⟩) hB).trans (by simpa using HCC.out m _ hx' 0 _ rfl)
        have A1 : w1.cell? ⟨b, off + m * 3 + 1, none⟩ = some (.string s') := (HB2.out.cell (p := ⟨b, off + m * 3 + 1, none⟩) hB).trans (HCC.out m _ hx' 1 _ rfl)
        have A2 : w1.cell? ⟨b, off + m * 3 + 2, none⟩ = some (.int .i64 c') := (HB2.out.cell (p := ⟨b, off + m * 3 + 2, none⟩) hB).trans (HCC.out m _ hx' 2 _ rfl)
        have S2 : w1.cell? ⟨sb, 2, none⟩ = some (.slice (some ⟨b, off, none⟩) l.length cap) := HK2.out.cell 2
        obtain ⟨gb, hgb⟩ : ∃ y, w1.heap.size = y := ⟨_, rfl⟩
        obtain ⟨wc, hwc⟩ : ∃ y, w1.alloc (.cells #[.int .i64 p', .string s', .int .i64 c'] 44) = y := ⟨_, rfl⟩
        have hg1 : Bk gb 44 #[.int .i64 p', .string s', .int .i64 c'] wc := by rw [← hwc, ← hgb]; exact Bk.new _ _ _
        have HB3 : Hid (Below w.heap.size w wc) := Lib.hid (HB2.out.trans (by rw [← hwc]; exact (bAlloc w1 _).mono HB2.out.size))
        have HK3 := Lib.hid (HK2.out.grows (by rw [← hwc]; exact Grows.of_alloc w1 _ : Grows w1 wc))
        have hl3 := HL2.out.grows (by rw [← hwc]; exact Grows.of_alloc w1 _ : Grows w1 wc)
        have F0 : wc.cell? ⟨gb, 0, none⟩ = some (.int .i64 p') := hg1.cell 0
        have F1 : wc.cell? ⟨gb, 1, none⟩ = some (.string s') := hg1.cell 1
        have F2 : wc.cell? ⟨gb, 2, none⟩ = some (.int .i64 c') := hg1.cell 2
        have G0 : wc.cell? ⟨fb, 0, none⟩ = some (.int .i64 p) := hl3.cell 0
        have G1 : wc.cell? ⟨fb, 1, none⟩ = some (.string s) := hl3.cell 1
        have G2 : wc.cell? ⟨fb, 2, none⟩ = some (.int .i64 c) := hl3.cell 2
        have HWF := Lib.hid (And.intro hgb hwc)
        have HH0 := Lib.hid h0
        have HMM := Lib.hid hm
        clear hx' hgb hwc hg1 hl3 HL2 h0 HD HAH hm
        go_upto_region 14 with fail
        rw [HWF.out.1, HWF.out.2]
        clear HWF A0 A1 A2 S2 v1
        obtain ⟨lb, hlb⟩ : ∃ y, lessB (p', s', c') (p, s, c) = y := ⟨_, rfl⟩
        have HLS : Hid (∀ W, Calls Tryz.prog 24 #[.agg #[.int .i64 p', .string s', .int .i64 c'], .agg #[.int .i64 p, .string s, .int .i64 c]] W fun e w' => e = .returned (.bool lb) ∧ Below W.heap.size W w') := Lib.hid fun W => by rw [← hlb]; exact sl_less p' p s' s c' c W
        rw [hlb] at HD2
        clear hlb
        by_cases hp : p' = p
        · subst hp
          cases hq : (s'.toList == s.toList) with
          | true =>
            have HE : Hid (R = 7) := Lib.hid (by rw [HD2.out, if_pos ⟨rfl, ba_eq hq⟩])
            go_wp2
            go_ret
            rw [HE.out]
            exact ⟨rfl, HB3.out⟩
          | false =>
            have HD3 : Hid (R = if lb = false then 8 else slpGo (some (p', s, c)) (l.drop (n + 1))) := Lib.hid (by rw [HD2.out, if_neg (fun h => ba_ne hq h.2)])
            go_wp2_with fail
            refine (HLS.out _).mono ?_
            rintro e w2 ⟨rfl, hb2⟩
            have HB4 := Lib.hid (HB3.out.trans (hb2.mono HB3.out.size))
            have HK4 := Lib.hid (bkBel HK3.out hb2)
            clear hb2 F0 F1 F2 G0 G1 G2 HB3 HK3 HLS
            cases lb with
            | false =>
              have HE : Hid (R = 8) := Lib.hid (by rw [HD3.out, if_pos rfl])
              go_wp2
              go_ret
              rw [HE.out]
              exact ⟨rfl, HB4.out⟩
            | true =>
              have HE : Hid (slpGo (aheadO l (n + 1)) (l.drop (n + 1)) = R) := Lib.hid (by rw [HNX.out, HD3.out, if_neg (by simp)])
              go_wp2
              go_roundg (l.length - (n + 1))
              case measure => omega
              case rel => exact ⟨n + 1, by omega, by go_num, HE, HB4, HK4⟩
        · have bp : (p' == p) = false := beq_eq_false_iff_ne.2 hp
          have HD3 : Hid (R = if lb = false then 8 else slpGo (some (p, s, c)) (l.drop (n + 1))) := Lib.hid (by rw [HD2.out, if_neg (fun h => hp h.1)])
          clear hp
          go_wp2_with fail
          refine (HLS.out _).mono ?_
          rintro e w2 ⟨rfl, hb2⟩
          have HB4 := Lib.hid (HB3.out.trans (hb2.mono HB3.out.size))
          have HK4 := Lib.hid (bkBel HK3.out hb2)
          clear hb2 F0 F1 F2 G0 G1 G2 HB3 HK3 HLS
          cases lb with
          | false =>
            have HE : Hid (R = 8) := Lib.hid (by rw [HD3.out, if_pos rfl])
            go_wp2
            go_ret
            rw [HE.out]
            exact ⟨rfl, HB4.out⟩
          | true =>
            have HE : Hid (slpGo (aheadO l (n + 1)) (l.drop (n + 1)) = R) := Lib.hid (by rw [HNX.out, HD3.out, if_neg (by simp)])
            go_wp2
            go_roundg (l.length - (n + 1))
            case measure => omega
            case rel => exact ⟨n + 1, by omega, by go_num, HE, HB4, HK4⟩
    · obtain rfl : n = l.length := by omega
      go_wp2
      go_ret
      have h := HA.out
      rw [List.drop_length] at h
      have h2 : slpGo (aheadO l l.length) [] = 0 := by cases aheadO l l.length <;> rfl
      rw [← h, h2]
      exact ⟨rfl, HB.out⟩
end Go.Proofs.YtgepbkldgnjpfaaGreatDoor
