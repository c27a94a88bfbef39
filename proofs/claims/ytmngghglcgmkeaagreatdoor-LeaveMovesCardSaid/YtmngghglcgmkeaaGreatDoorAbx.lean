/- Merged from: Abe Abf Abg. -/
import Derived.Test.YtmngghglcgmkeaaGreatDoorAbw
import Derived.BigQuiet
namespace Go.Proofs.YtmngghglcgmkeaaGreatDoor
open Go.RowKit Go.Sort

theorem r4d_In (d : Int) (w : World) : Calls Tryz.prog 18 #[.int .i64 d] w fun e w' => e = .returned (.bool (decide (-25567 ≤ d ∧ d ≤ 84005))) ∧ w = w' := by
  by_cases h1 : -25567 ≤ d
  · by_cases h2 : d ≤ 84005
    · have d1 : decide ((-25567 : Int) ≤ d) = true := decide_eq_true h1
      have d2 : decide (d ≤ (84005 : Int)) = true := decide_eq_true h2
      rw [decide_eq_true (And.intro h1 h2)]
      go_enter Tryz.func18, Tryz.ntmps18
      go_wp2
      go_ret
      exact ⟨rfl, rfl⟩
    · have d1 : decide ((-25567 : Int) ≤ d) = true := decide_eq_true h1
      have d2 : decide (d ≤ (84005 : Int)) = false := decide_eq_false h2
      rw [decide_eq_false (fun h => h2 h.2)]
      go_enter Tryz.func18, Tryz.ntmps18
      go_wp2
      go_ret
      exact ⟨rfl, rfl⟩
  · have d1 : decide ((-25567 : Int) ≤ d) = false := decide_eq_false h1
    rw [decide_eq_false (fun h => h1 h.1)]
    go_enter Tryz.func18, Tryz.ntmps18
    go_wp2
    go_ret
    exact ⟨rfl, rfl⟩
def onR (h : Nat → Int) (D : List Int) (d : Int) : Int := if calB d = true then onV h D d else 0
theorem cal_dec (d : Int) : decide (-25567 ≤ d ∧ d ≤ 84005) = calB d := by
  unfold calB
  rw [Bool.decide_and]
def wkTo (h : Nat → Int) (k : Nat) : Bool := (List.range k).all fun i => decide (0 ≤ h i ∧ h i ≤ 1440)
theorem wkTo_succ (h : Nat → Int) (k : Nat) : wkTo h (k + 1) = (wkTo h k && decide (0 ≤ h k ∧ h k ≤ 1440)) := by
  simp [wkTo, List.range_succ]
theorem wkTo_no {h : Nat → Int} {k : Nat} (hk : k < 7) (hb : ¬ (0 ≤ h k ∧ h k ≤ 1440)) : rightB h = false := by
  rw [← Bool.not_eq_true]
  intro e
  unfold rightB at e
  rw [List.all_eq_true] at e
  exact hb (of_decide_eq_true (e k (List.mem_range.2 hk)))
theorem bk7 {T : TypeId} {sb : Nat} {h : Nat → Int} {w : World} (hk : Bk sb T #[.int .i64 (h 0), .int .i64 (h 1), .int .i64 (h 2), .int .i64 (h 3), .int .i64 (h 4), .int .i64 (h 5), .int .i64 (h 6)] w) {k : Nat} (h7 : k < 7) : w.cell? ⟨sb, k, none⟩ = some (.int .i64 (h k)) := by
  have hlt7 : k = 0 ∨ k = 1 ∨ k = 2 ∨ k = 3 ∨ k = 4 ∨ k = 5 ∨ k = 6 := by omega
  rcases hlt7 with rfl | rfl | rfl | rfl | rfl | rfl | rfl <;> exact hk.cell _
end Go.Proofs.YtmngghglcgmkeaaGreatDoor

namespace Go.Proofs.YtmngghglcgmkeaaGreatDoor
open Go.RowKit Go.Sort

def fSum (l : List Ab) (k : Int) (g : Int → Int) (d : Int) : Int := if awayB l k d = true then g d else 0
def awayOne (x : Ab) (k d : Int) : Bool := decide (x.ki = k) && decide (x.fr ≤ d) && decide (d < x.to)
theorem away_take {l : List Ab} {i : Nat} {x : Ab} (k d : Int) (h : l[i]? = some x) : awayB (l.take (i + 1)) k d = (awayB (l.take i) k d || awayOne x k d) := by
  unfold awayB awayOne
  rw [List.take_add_one, h, Option.toList_some, List.any_append]
  simp
/-- What a day brings. -/
theorem day_brings (h : Nat → Int) (D : List Int) (l : List Ab) (k d : Int) : fSum l k (gMin h D) d = (if (awayB l k d && decide (chkP h D = 0) && decide (0 < onR h D d)) = true then onR h D d else 0) ∧ fSum l k (gDay h D) d = (if (awayB l k d && decide (chkP h D = 0) && decide (0 < onR h D d)) = true then 1 else 0) := by
  unfold fSum gMin gDay inCal onR okP2
  cases ha : awayB l k d with
  | false => simp
  | true =>
    by_cases hc : chkP h D = 0
    · have hb := onV_bd (chkP_ok hc).1 D d
      cases hcal : calB d with
      | false => simp
      | true =>
        simp only [hc, decide_true, Bool.and_true, if_true, Bool.true_and]
        by_cases h0 : onV h D d = 0
        · unfold oneD; simp [h0]
        · have : 0 < onV h D d := by omega
          unfold oneD
          simp [h0, this]
    · simp [hc]
end Go.Proofs.YtmngghglcgmkeaaGreatDoor

namespace Go.Proofs.YtmngghglcgmkeaaGreatDoor
open Go.RowKit Go.Sort

/-- The kind of a code. -/
def kiB (co : ByteArray) : Int × Bool := if (co.toList == [115, 105, 99, 107]) = true then (0, true) else if (co.toList == [108, 101, 97, 118, 101]) = true then (1, true) else if (co.toList == [117, 110, 112, 97, 105, 100]) = true then (2, true) else if (co.toList == [112, 97, 114, 101, 110, 116, 97, 108]) = true then (3, true) else (0, false)
set_option maxHeartbeats 2000000 in
theorem ab_Kind (co : ByteArray) (w : World) : Calls Tryz.prog 15 #[.string co] w fun e w' => e = .returned (.tuple #[.int .i64 (kiB co).1, .bool (kiB co).2]) ∧ w = w' := by
  have HV : Hid (kiB co = if (co.toList == [115, 105, 99, 107]) = true then (0, true) else if (co.toList == [108, 101, 97, 118, 101]) = true then (1, true) else if (co.toList == [117, 110, 112, 97, 105, 100]) = true then (2, true) else if (co.toList == [112, 97, 114, 101, 110, 116, 97, 108]) = true then (3, true) else (0, false)) := Lib.hid rfl
  obtain ⟨kv, hkv⟩ : ∃ v, kiB co = v := ⟨_, rfl⟩
  rw [hkv] at HV ⊢
  clear hkv
  obtain ⟨v0, h0⟩ : ∃ v, (co.toList == [115, 105, 99, 107]) = v := ⟨_, rfl⟩
  obtain ⟨v1, h1⟩ : ∃ v, (co.toList == [108, 101, 97, 118, 101]) = v := ⟨_, rfl⟩
  obtain ⟨v2, h2⟩ : ∃ v, (co.toList == [117, 110, 112, 97, 105, 100]) = v := ⟨_, rfl⟩
  obtain ⟨v3, h3⟩ : ∃ v, (co.toList == [112, 97, 114, 101, 110, 116, 97, 108]) = v := ⟨_, rfl⟩
  rw [h0, h1, h2, h3] at HV
  cases v0
  all_goals cases v1
  all_goals cases v2
  all_goals cases v3
  all_goals
    have HF := Lib.hid HV.out
    clear HV
    simp only [if_true, if_false, Bool.false_eq_true] at HF
    go_enter Tryz.func15, Tryz.ntmps15
    go_wp2
    go_ret2
    exact ⟨by rw [HF.out]; rfl, by first | trivial | rfl⟩
def withB (F U : Int) : Bool := decide (U ≤ F) || (calB F && calB (U - 1))
theorem wd_cal (d : Int) : (calB d = true → ¬ wdV d < 0) ∧ (calB d = false → wdV d = -1) := by
  unfold calB wdV
  by_cases h : -25567 ≤ d ∧ d ≤ 84005
  · rw [if_pos h, decide_eq_true h.1, decide_eq_true h.2]
    exact ⟨fun _ => by omega, fun e => by simp at e⟩
  · rw [if_neg h]
    refine ⟨fun e => ?_, fun _ => rfl⟩
    simp at e
    exact absurd e h
set_option maxHeartbeats 2000000 in
theorem ab_within (F U : Int) (w : World) (hF : -9223372036854775808 ≤ F ∧ F ≤ 9223372036854775807) (hU : -9223372036854775808 ≤ U ∧ U ≤ 9223372036854775807) : Calls Tryz.prog 30 #[.agg #[.int .i64 F, .int .i64 U]] w fun e w' => e = .returned (.bool (withB F U)) ∧ Below w.heap.size w w' := by
  obtain ⟨sb, hsb⟩ : ∃ z, w.heap.size = z := ⟨_, rfl⟩
  obtain ⟨w2, hw2⟩ : ∃ z, w.alloc (.cells #[.int .i64 F, .int .i64 U] 28) = z := ⟨_, rfl⟩
  have hk : Bk sb 28 #[.int .i64 F, .int .i64 U] w2 := by rw [← hw2, ← hsb]; exact Bk.new _ _ _
  have HB2 : Hid (Below w.heap.size w w2) := Lib.hid (by rw [← hw2]; exact bAlloc _ _)
  have S0 : w2.cell? ⟨sb, 0, none⟩ = some (.int .i64 F) := hk.cell 0
  have S1 : w2.cell? ⟨sb, 1, none⟩ = some (.int .i64 U) := hk.cell 1
  have HE := Lib.hid (And.intro hsb hw2)
  have HV : Hid (withB F U = (decide (U ≤ F) || (calB F && calB (U - 1)))) := Lib.hid rfl
  obtain ⟨v, hv⟩ : ∃ v, withB F U = v := ⟨_, rfl⟩
  rw [hv] at HV ⊢
  clear hsb hw2 hk hv
  by_cases h : U ≤ F
  · have HF : Hid (v = true) := Lib.hid (by rw [HV.out, decide_eq_true h]; rfl)
    go_enter Tryz.func30, Tryz.ntmps30
    go_upto_region 1 with fail
    rw [HE.out.1, HE.out.2]
    clear HE
    go_wp2
    go_ret
    exact ⟨by rw [HF.out]; rfl, HB2.out⟩
  · have HW1 := Lib.hid (civ_Weekday F w2 hF)
    have HW2 := Lib.hid (civ_Weekday (U - 1) w2 (by omega))
    have HC1 := Lib.hid (wd_cal F)
    have HC2 := Lib.hid (wd_cal (U - 1))
    have HV2 : Hid (v = (calB F && calB (U - 1))) := Lib.hid (by rw [HV.out, decide_eq_false h]; rfl)
    clear HV
    go_enter Tryz.func30, Tryz.ntmps30
    go_upto_region 1 with fail
    rw [HE.out.1, HE.out.2]
    clear HE
    go_wp2_with fail
    refine HW1.out.mono ?_
    rintro e wz ⟨rfl, hwz⟩
    subst hwz
    clear HW1
    obtain ⟨c1, hc1⟩ : ∃ c, calB F = c := ⟨_, rfl⟩
    obtain ⟨c2, hc2⟩ : ∃ c, calB (U - 1) = c := ⟨_, rfl⟩
    rw [hc1] at HC1 HV2
    rw [hc2] at HC2 HV2
    clear hc1 hc2
    cases c1 with
    | false =>
      have hz := HC1.out.2 rfl
      have HF : Hid (v = false) := Lib.hid HV2.out
      rw [hz]
      clear hz HC1 HC2
      go_wp2
      go_ret
      exact ⟨by rw [HF.out]; rfl, HB2.out⟩
    | true =>
      obtain ⟨z, hz⟩ : ∃ z, wdV F = z := ⟨_, rfl⟩
      have hz0 : ¬ z < 0 := by rw [← hz]; have h1 := HC1.out.1 rfl; omega
      have hz1 : 0 ≤ z := by omega
      rw [hz]
      clear hz HC1
      go_wp2_with fail
      refine HW2.out.mono ?_
      rintro e wz ⟨rfl, hwz⟩
      subst hwz
      clear HW2
      cases c2 with
      | false =>
        have hz := HC2.out.2 rfl
        have HF : Hid (v = false) := Lib.hid HV2.out
        rw [hz]
        clear hz HC2
        go_wp2
        go_ret
        exact ⟨by rw [HF.out]; rfl, HB2.out⟩
      | true =>
        obtain ⟨y, hy⟩ : ∃ z, wdV (U - 1) = z := ⟨_, rfl⟩
        have hy0 : ¬ y < 0 := by rw [← hy]; have h1 := HC2.out.1 rfl; omega
        have hy1 : 0 ≤ y := by omega
        have HF : Hid (v = true) := Lib.hid HV2.out
        rw [hy]
        clear hy HC2
        go_wp2
        go_ret
        exact ⟨by rw [HF.out]; first | rfl | (simp; omega), HB2.out⟩
theorem ab_Of1 (x : Kn) (p : Nat) (n : Int) (w : World) (hp : w.cell? ⟨p, 2, none⟩ = some (.int .i64 n)) :
    Calls Tryz.prog 34 #[.agg #[.int .i64 x.1, .int .u32 x.2.id, .int .u32 x.2.pe, .int .i64 x.2.ki, .int .i64 x.2.fr, .int .i64 x.2.to, .string x.2.co, .int .i64 x.2.nu, .string x.2.tx], .pointer (some ⟨p, 0, none⟩)] w fun e w' => e = .returned (.bool (x.1 == n)) ∧ Below w.heap.size w w' := by
  have hlt := cell_lt hp
  simp only at hlt
  have HB := Lib.hid (bAlloc w (.cells #[.int .i64 x.1, .int .u32 x.2.id, .int .u32 x.2.pe, .int .i64 x.2.ki, .int .i64 x.2.fr, .int .i64 x.2.to, .string x.2.co, .int .i64 x.2.nu, .string x.2.tx] 67))
  go_enter Tryz.func34, Tryz.ntmps34
  go_wp2
  go_ret
  exact ⟨rfl, HB.out⟩
set_option maxHeartbeats 2000000 in
set_option maxRecDepth 10000 in
theorem ab_Index (X : List Kn) (A : Option Addr) (cap p j : Nat) (n : Int) (y : Kn) (w : World) (hn : X.length ≤ 1000000) (hs : SlK1 w A X) (hp : w.cell? ⟨p, 2, none⟩ = some (.int .i64 n)) (hj : X[j]? = some y) (hy : y.1 = n) (hf : ∀ i x, i < j → X[i]? = some x → x.1 ≠ n) :
    Calls Tryz.prog 33 #[.slice A X.length cap, .func (.func 34) #[] #[.pointer (some ⟨p, 0, none⟩)]] w fun e w' => e = .returned (.int .i64 j) ∧ Below w.heap.size w w' := by
  have HS := Lib.hid hs
  have HPC := Lib.hid hp
  have HJ := Lib.hid (And.intro hj hy)
  have HF := Lib.hid hf
  have hjl := (List.getElem?_eq_some_iff.1 hj).1
  clear hs hp hj hy hf
  go_enter Tryz.func33, Tryz.ntmps33
  go_wp2
  go_loopw [5, 8] (fun _ iv wr => ∃ k : Nat, k ≤ j ∧ iv = .int .i64 k ∧ Hid (Below w.heap.size w wr)) (fun _ iv _ => X.length - (intOf iv).toNat)
  case atStart => exact ⟨0, Nat.zero_le _, rfl, Lib.hid (Below.refl _ _)⟩
  case round =>
    obtain ⟨k, hk, rfl, HB⟩ := hrel
    obtain ⟨x, hx⟩ : ∃ x, X[k]? = some x := ⟨_, List.getElem?_eq_getElem (by omega)⟩
    obtain ⟨b, off, rfl, _, hat⟩ := HS.out (by intro h; simp [h] at hx)
    have C0 : wr.cell? ⟨b, off + k * 9, none⟩ = some (.int .i64 x.1) := bCell HB.out (hat k _ hx 0 _ rfl)
    have C1 : wr.cell? ⟨b, off + k * 9 + 1, none⟩ = some (.int .u32 x.2.id) := bCell HB.out (hat k _ hx 1 _ rfl)
    have C2 : wr.cell? ⟨b, off + k * 9 + 2, none⟩ = some (.int .u32 x.2.pe) := bCell HB.out (hat k _ hx 2 _ rfl)
    have C3 : wr.cell? ⟨b, off + k * 9 + 3, none⟩ = some (.int .i64 x.2.ki) := bCell HB.out (hat k _ hx 3 _ rfl)
    have C4 : wr.cell? ⟨b, off + k * 9 + 4, none⟩ = some (.int .i64 x.2.fr) := bCell HB.out (hat k _ hx 4 _ rfl)
    have C5 : wr.cell? ⟨b, off + k * 9 + 5, none⟩ = some (.int .i64 x.2.to) := bCell HB.out (hat k _ hx 5 _ rfl)
    have C6 : wr.cell? ⟨b, off + k * 9 + 6, none⟩ = some (.string x.2.co) := bCell HB.out (hat k _ hx 6 _ rfl)
    have C7 : wr.cell? ⟨b, off + k * 9 + 7, none⟩ = some (.int .i64 x.2.nu) := bCell HB.out (hat k _ hx 7 _ rfl)
    have C8 : wr.cell? ⟨b, off + k * 9 + 8, none⟩ = some (.string x.2.tx) := bCell HB.out (hat k _ hx 8 _ rfl)
    have HX := Lib.hid hx
    have HPL := Lib.hid (ab_Of1 x p n wr (bCell HB.out HPC.out))
    have hkl : (k : Int) < (X.length : Int) := by omega
    clear hat hx
    by_cases hkj : k = j
    · have bi : (x.1 == n) = true := by
        have h1 := HX.out
        rw [hkj, HJ.out.1] at h1
        injection h1 with h1
        rw [← h1]
        exact beq_iff_eq.2 HJ.out.2
      rw [bi] at HPL
      clear bi
      subst hkj
      go_wp2_with fail
      refine (HPL.out).mono ?_
      rintro e w1 ⟨rfl, hb1⟩
      have HBF := Lib.hid (bTrans HB.out hb1)
      clear hb1
      go_wp2
      go_ret
      exact ⟨rfl, HBF.out⟩
    · have bi : (x.1 == n) = false := beq_eq_false_iff_ne.2 (HF.out k x (by omega) HX.out)
      rw [bi] at HPL
      clear bi
      go_wp2_with fail
      refine (HPL.out).mono ?_
      rintro e w1 ⟨rfl, hb1⟩
      have HBF := Lib.hid (bTrans HB.out hb1)
      clear hb1 C0 C1 C2 C3 C4 C5 C6 C7 C8
      go_wp2
      exact ⟨⟨k + 1, by omega, by go_num, HBF⟩, by simp [intOf]; omega⟩
end Go.Proofs.YtmngghglcgmkeaaGreatDoor
