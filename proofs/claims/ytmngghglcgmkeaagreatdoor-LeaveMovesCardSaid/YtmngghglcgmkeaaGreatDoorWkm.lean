/- Merged from: Wka Wkb Wkc. -/
import Derived.Test.YtmngghglcgmkeaaGreatDoorTma
import Derived.Test.YtmngghglcgmkeaaGreatDoorLna
import Derived.BigQuiet
import Derived.WalkMore
namespace Go.Proofs.YtmngghglcgmkeaaGreatDoor
open Go.RowKit Go.Sort

def prevB (p : Option Int) (d : Int) : Bool := match p with
  | some q => decide (d ≤ q)
  | none => false
/-- What is wrong with free days. -/
def frE (p : Option Int) : List Int → Int
  | [] => 0
  | d :: l => if ¬ (-25567 ≤ d ∧ d ≤ 84005) then 15 else if prevB p d = true then 8 else frE (some d) l
def chkP (h : Nat → Int) (D : List Int) : Int := if rightB h = false then 2 else if 4096 < D.length then 5 else frE none D
/-- The free days ahead of one are right. -/
def frTo (D : List Int) (k : Nat) : Prop := frE none D = frE (if k = 0 then none else D[k - 1]?) (D.drop k)
theorem frTo_zero (D : List Int) : frTo D 0 := rfl
theorem frTo_one {D : List Int} {k : Nat} {d : Int} (h : frTo D k) (hd : D[k]? = some d) : frE none D = if ¬ (-25567 ≤ d ∧ d ≤ 84005) then 15 else if prevB (if k = 0 then none else D[k - 1]?) d = true then 8 else frE (some d) (D.drop (k + 1)) := by
  unfold frTo at h
  have hk := (List.getElem?_eq_some_iff.1 hd)
  rw [h, List.drop_eq_getElem_cons hk.1, hk.2]
  rfl
theorem frTo_succ {D : List Int} {k : Nat} {d : Int} (h : frTo D k) (hd : D[k]? = some d) (h1 : -25567 ≤ d ∧ d ≤ 84005) (h2 : k = 0 ∨ ∃ q, D[k - 1]? = some q ∧ q < d) : frTo D (k + 1) := by
  have h3 := frTo_one h hd
  unfold frTo
  rw [h3, if_neg (by omega), if_neg, if_neg (by omega), show k + 1 - 1 = k from rfl, hd]
  rcases h2 with rfl | ⟨q, h2, h4⟩
  · simp [prevB]
  · by_cases hk : k = 0
    · rw [if_pos hk]; simp [prevB]
    · rw [if_neg hk, h2]; simp [prevB]; omega
theorem frTo_15 {D : List Int} {k : Nat} {d : Int} (h : frTo D k) (hd : D[k]? = some d) (h1 : ¬ (-25567 ≤ d ∧ d ≤ 84005)) : frE none D = 15 := by
  rw [frTo_one h hd, if_pos h1]
theorem frTo_8 {D : List Int} {k : Nat} {d q : Int} (h : frTo D k) (hd : D[k]? = some d) (h1 : -25567 ≤ d ∧ d ≤ 84005) (hk : k ≠ 0) (hq : D[k - 1]? = some q) (h2 : d ≤ q) : frE none D = 8 := by
  rw [frTo_one h hd, if_neg (by omega), if_pos]
  rw [if_neg hk, hq]
  simpa [prevB] using h2
theorem frTo_end {D : List Int} (h : frTo D D.length) : frE none D = 0 := by
  unfold frTo at h
  rw [h, List.drop_length]
  rfl
theorem frE_ok : ∀ {D : List Int} {p : Option Int}, frE p D = 0 → D.Pairwise (· < ·) ∧ (∀ d ∈ D, -25567 ≤ d ∧ d ≤ 84005) ∧ (∀ q, p = some q → ∀ d ∈ D, q < d)
  | [], p, _ => ⟨.nil, fun _ h => absurd h (List.not_mem_nil), fun _ _ _ h => absurd h (List.not_mem_nil)⟩
  | d :: l, p, h => by
    unfold frE at h
    by_cases h1 : -25567 ≤ d ∧ d ≤ 84005
    · rw [if_neg (by omega)] at h
      by_cases h2 : prevB p d = true
      · rw [if_pos h2] at h; simp at h
      · rw [if_neg h2] at h
        obtain ⟨i1, i2, i3⟩ := frE_ok h
        refine ⟨List.pairwise_cons.2 ⟨fun x hx => i3 d rfl x hx, i1⟩, fun x hx => ?_, fun q hq x hx => ?_⟩
        · rcases List.mem_cons.1 hx with rfl | hx
          · exact h1
          · exact i2 x hx
        · rw [hq] at h2
          simp [prevB] at h2
          rcases List.mem_cons.1 hx with rfl | hx
          · exact h2
          · have := i3 d rfl x hx; omega
    · rw [if_pos h1] at h; simp at h
set_option maxHeartbeats 4000000 in
set_option maxRecDepth 100000 in
theorem wk_Check (h : Nat → Int) (D : List Int) (A : Option Addr) (c : Nat) (w : World) (hn : D.length ≤ 9223372036854775807) (hs : Sl encDd 1 w w.heap.size A D) (hd : ∀ d ∈ D, -9223372036854775808 ≤ d ∧ d ≤ 9223372036854775807) :
    Calls Tryz.prog 19 #[.agg #[.int .i64 (h 0), .int .i64 (h 1), .int .i64 (h 2), .int .i64 (h 3), .int .i64 (h 4), .int .i64 (h 5), .int .i64 (h 6), .slice A D.length c]] w fun e w' => e = .returned (.int .i64 (chkP h D)) ∧ Below w.heap.size w w' := by
  obtain ⟨pb, hpb⟩ : ∃ z, w.heap.size = z := ⟨_, rfl⟩
  obtain ⟨w2, hw2⟩ : ∃ z, w.alloc (.cells #[.int .i64 (h 0), .int .i64 (h 1), .int .i64 (h 2), .int .i64 (h 3), .int .i64 (h 4), .int .i64 (h 5), .int .i64 (h 6), .slice A D.length c] 58) = z := ⟨_, rfl⟩
  have hb2 : Below w.heap.size w w2 := by rw [← hw2]; exact bAlloc _ _
  have HB2 := Lib.hid hb2
  have HK2 : Hid (Bk pb 58 #[.int .i64 (h 0), .int .i64 (h 1), .int .i64 (h 2), .int .i64 (h 3), .int .i64 (h 4), .int .i64 (h 5), .int .i64 (h 6), .slice A D.length c] w2) := Lib.hid (by rw [← hw2, ← hpb]; exact Bk.new _ _ _)
  have HS2 := Lib.hid (sl_bel hs hb2)
  have HD := Lib.hid hd
  have HRI : Hid (Calls Tryz.prog 44 #[.agg #[.int .i64 (h 0), .int .i64 (h 1), .int .i64 (h 2), .int .i64 (h 3), .int .i64 (h 4), .int .i64 (h 5), .int .i64 (h 6)]] w2 fun e w' => e = .returned (.bool (rightB h)) ∧ Grows w2 w') := Lib.hid (wk_right h w2)
  have HE := Lib.hid (And.intro hpb hw2)
  have HCH : Hid (chkP h D = if rightB h = false then 2 else if 4096 < D.length then 5 else frE none D) := Lib.hid rfl
  obtain ⟨rb, hrb⟩ : ∃ z, rightB h = z := ⟨_, rfl⟩
  rw [hrb] at HRI HCH
  obtain ⟨ce, hce⟩ : ∃ z, chkP h D = z := ⟨_, rfl⟩
  rw [hce] at HCH ⊢
  clear hs hb2 hw2 hpb hd hrb hce
  have K0 : w2.cell? ⟨pb, 0, none⟩ = some (.int .i64 (h 0)) := HK2.out.cell 0
  have K1 : w2.cell? ⟨pb, 1, none⟩ = some (.int .i64 (h 1)) := HK2.out.cell 1
  have K2 : w2.cell? ⟨pb, 2, none⟩ = some (.int .i64 (h 2)) := HK2.out.cell 2
  have K3 : w2.cell? ⟨pb, 3, none⟩ = some (.int .i64 (h 3)) := HK2.out.cell 3
  have K4 : w2.cell? ⟨pb, 4, none⟩ = some (.int .i64 (h 4)) := HK2.out.cell 4
  have K5 : w2.cell? ⟨pb, 5, none⟩ = some (.int .i64 (h 5)) := HK2.out.cell 5
  have K6 : w2.cell? ⟨pb, 6, none⟩ = some (.int .i64 (h 6)) := HK2.out.cell 6
  go_enter Tryz.func19, Tryz.ntmps19
  go_upto_region 1 with fail
  rw [HE.out.1, HE.out.2]
  clear HE
  go_wp2_with fail
  refine HRI.out.mono ?_
  rintro e w3 ⟨rfl, hg3⟩
  have HB3 : Hid (Below w2.heap.size w2 w3) := Lib.hid hg3.below
  clear hg3 HRI K0 K1 K2 K3 K4 K5 K6
  have HK3 : Hid (w3.cell? ⟨pb, 7, none⟩ = some (.slice A D.length c)) := Lib.hid (bCell HB3.out (HK2.out.cell 7))
  have HS3 := Lib.hid (sl_bel HS2.out HB3.out)
  have HBW : Hid (Below w.heap.size w w3) := Lib.hid (bTrans HB2.out HB3.out)
  clear HB2 HB3 HS2 HK2
  cases rb with
  | false =>
    have HV : Hid (ce = 2) := Lib.hid HCH.out
    go_wp2
    go_ret
    exact ⟨by rw [HV.out]; rfl, HBW.out⟩
  | true =>
    have K7 := HK3.out
    by_cases h4 : (4096 : Int) < (D.length : Int)
    · have HV : Hid (ce = 5) := Lib.hid (by rw [HCH.out, if_neg (by simp), if_pos (by omega)])
      go_wp2
      go_ret
      exact ⟨by rw [HV.out]; rfl, HBW.out⟩
    have HV : Hid (ce = frE none D) := Lib.hid (by rw [HCH.out, if_neg (by simp), if_neg (by omega)])
    clear HCH
    go_wp2
    go_loopw [18] (fun kv wr => ∃ k : Nat, k ≤ D.length ∧ kv = .int .i64 k ∧ Hid (frTo D k) ∧ w3 = wr) (fun kv _ => D.length - (intOf kv).toNat)
    case atStart => exact ⟨0, Nat.zero_le _, rfl, Lib.hid (frTo_zero D), rfl⟩
    case round =>
      obtain ⟨k, hk, rfl, HF, hww⟩ := hrel
      subst hww
      by_cases hlt : k < D.length
      · obtain ⟨d, hx⟩ : ∃ x, D[k]? = some x := ⟨_, List.getElem?_eq_getElem hlt⟩
        obtain ⟨g, o, rfl, _, hat⟩ := HS3.out (by intro h; simp [h] at hx)
        have C0 : w3.cell? ⟨g, o + k, none⟩ = some (.int .i64 d) := by
          have := hat k _ hx 0 _ rfl
          simpa using this
        have HWD := Lib.hid (civ_Weekday d w3 (HD.out d (List.mem_of_getElem? hx)))
        have HX := Lib.hid hx
        have hlt2 : (k : Int) < (D.length : Int) := by omega
        have HAT := Lib.hid hat
        clear hx hat
        go_wp2_with fail
        refine HWD.out.mono ?_
        rintro e wz ⟨rfl, hwz⟩
        subst hwz
        clear HWD
        by_cases hc : -25567 ≤ d ∧ d ≤ 84005
        · have hwd : wdV d = (d + 25567) % 7 := by unfold wdV; rw [if_pos hc]
          obtain ⟨z, hz⟩ : ∃ z, (d + 25567) % 7 = z := ⟨_, rfl⟩
          have hz0 : ¬ z < 0 := by omega
          rw [hwd, hz]
          clear hwd hz
          by_cases hk0 : k = 0
          · subst hk0
            have HF2 := Lib.hid (frTo_succ HF.out HX.out hc (.inl rfl))
            clear hc
            go_wp2
            exact ⟨⟨0 + 1, by omega, by go_num, HF2, by first | trivial | rfl⟩, by simp [intOf]; omega⟩
          · obtain ⟨j, rfl⟩ : ∃ j, k = j + 1 := ⟨k - 1, by omega⟩
            obtain ⟨q, hq⟩ : ∃ q, D[j]? = some q := ⟨_, List.getElem?_eq_getElem (by omega)⟩
            have C1 : w3.cell? ⟨g, o + j, none⟩ = some (.int .i64 q) := by
              have := HAT.out j _ hq 0 _ rfl
              simpa using this
            have HQ := Lib.hid hq
            have hj0 : (0 : Int) < ((j + 1 : Nat) : Int) := by omega
            have hjl : (j : Int) < (D.length : Int) := by omega
            clear hq hk0
            by_cases hqd : d ≤ q
            · have HV2 : Hid (ce = 8) := Lib.hid (by rw [HV.out]; exact frTo_8 HF.out HX.out hc (by omega) HQ.out hqd)
              clear hc
              go_wp2
              go_ret
              exact ⟨by rw [HV2.out]; rfl, HBW.out⟩
            · have HF2 := Lib.hid (frTo_succ HF.out HX.out hc (.inr ⟨q, HQ.out, by omega⟩))
              clear hc
              go_wp2
              exact ⟨⟨j + 1 + 1, by omega, by go_num, HF2, by first | trivial | rfl⟩, by simp [intOf]; omega⟩
        · have hwd : wdV d = -1 := by unfold wdV; rw [if_neg hc]
          have HV2 : Hid (ce = 15) := Lib.hid (by rw [HV.out]; exact frTo_15 HF.out HX.out hc)
          rw [hwd]
          clear hwd hc
          go_wp2
          go_ret
          exact ⟨by rw [HV2.out]; rfl, HBW.out⟩
      · obtain rfl : k = D.length := by omega
        have HV2 : Hid (ce = 0) := Lib.hid (by rw [HV.out]; exact frTo_end HF.out)
        clear hlt
        go_wp2
        go_ret
        exact ⟨by rw [HV2.out]; rfl, HBW.out⟩
end Go.Proofs.YtmngghglcgmkeaaGreatDoor

namespace Go.Proofs.YtmngghglcgmkeaaGreatDoor
open Go.RowKit Go.Sort

theorem dd_isNaN2 (x : Int) (w : World) : Calls Tryz.prog 107 #[.int .i64 x] w fun e w' => e = .returned (.bool false) ∧ w' = w := by
  go_enter Tryz.func107, Tryz.ntmps107
  go_wp2
  go_ret
  exact ⟨by simp, rfl⟩
theorem dd_Less (x y : Int) (w : World) : Calls Tryz.prog 106 #[.int .i64 x, .int .i64 y] w fun e w' => e = .returned (.bool (decide (x < y))) ∧ w' = w := by
  have HN := Lib.hid (dd_isNaN x w)
  go_enter Tryz.func106, Tryz.ntmps106
  by_cases h : x < y
  · have hl : Hid (decide (x < y) = true) := Lib.hid (decide_eq_true h)
    go_wp2
    go_ret
    exact ⟨by first | rfl | exact ret_b hl.out.symm, rfl⟩
  · have hl : Hid (decide (x < y) = false) := Lib.hid (decide_eq_false h)
    go_wp2_with fail
    refine HN.out.mono ?_
    rintro e wz ⟨rfl, hwz⟩
    subst hwz
    go_wp2
    go_ret
    exact ⟨by first | rfl | exact ret_b hl.out.symm, rfl⟩
def memB (D : List Int) (d : Int) : Bool := decide (d ∈ D)
structure SrD (D : List Int) (d : Int) (i j : Nat) : Prop where
  lo : ∀ k s, k < i → D[k]? = some s → s < d
  hi : ∀ k s, j ≤ k → D[k]? = some s → d ≤ s
theorem SrD.mem {D : List Int} {d : Int} {i : Nat} (h : SrD D d i i) (hp : D.Pairwise (· < ·)) : d ∈ D ↔ D[i]? = some d := by
  constructor
  · intro hd
    obtain ⟨k, hk⟩ := List.mem_iff_getElem?.1 hd
    have h1 : i ≤ k := by
      refine Nat.le_of_not_lt fun hlt => ?_
      have := h.lo k d hlt hk
      omega
    by_cases hik : k = i
    · rw [← hik]; exact hk
    · exfalso
      have hkl := List.getElem?_eq_some_iff.1 hk
      have hk1 := hkl.1
      have := List.pairwise_iff_getElem.1 hp i k (by omega) hkl.1 (by omega)
      rw [hkl.2] at this
      have := h.hi i _ (Nat.le_refl _) (List.getElem?_eq_getElem (by have := hkl.1; omega))
      omega
  · intro hd; exact List.mem_of_getElem? hd
set_option maxHeartbeats 4000000 in
set_option maxRecDepth 100000 in
theorem sl_BSearch (D : List Int) (A : Option Addr) (c : Nat) (d : Int) (w : World) (hn : D.length ≤ 100000) (hp : D.Pairwise (· < ·)) (hs : Sl encDd 1 w w.heap.size A D) :
    Calls Tryz.prog 74 #[.slice A D.length c, .int .i64 d] w fun e w' => ∃ i : Nat, e = .returned (.tuple #[.int .i64 i, .bool (memB D d)]) ∧ w = w' := by
  have HS := Lib.hid hs
  have HP := Lib.hid hp
  clear hs hp
  go_enter Tryz.func74, Tryz.ntmps74
  go_wp2
  go_loopw [7, 8] (fun iv jv wr => ∃ i j : Nat, i ≤ j ∧ j ≤ D.length ∧ iv = .int .i64 i ∧ jv = .int .i64 j ∧ Hid (SrD D d i j) ∧ w = wr) (fun iv jv _ => (intOf jv).toNat - (intOf iv).toNat)
  case atStart => exact ⟨0, D.length, Nat.zero_le _, Nat.le_refl _, rfl, rfl, Lib.hid ⟨fun k s h _ => absurd h (Nat.not_lt_zero _), fun k s h hk => absurd (List.getElem?_eq_some_iff.1 hk).1 (by omega)⟩, by first | trivial | rfl⟩
  case round =>
    obtain ⟨i, j, hij, hj, rfl, rfl, HI, hww⟩ := hrel
    subst hww
    by_cases hlt : i < j
    · obtain ⟨h, hh⟩ : ∃ h, (i + j) / 2 = h := ⟨_, rfl⟩
      have h1 : i ≤ h ∧ h < j := by omega
      obtain ⟨p, hx⟩ : ∃ x, D[h]? = some x := ⟨_, List.getElem?_eq_getElem (by omega)⟩
      obtain ⟨g, o, rfl, _, hat⟩ := HS.out (by intro h; simp [h] at hx)
      have C0 : w.cell? ⟨g, o + h, none⟩ = some (.int .i64 p) := by
        have := hat h _ hx 0 _ rfl
        simpa using this
      have HX := Lib.hid hx
      have HHI : Hid (((i : Int) + (j : Int)) / 2 = (h : Int)) := Lib.hid (by omega)
      have HCM := Lib.hid (dd_Less p d w)
      have hlt2 : (i : Int) < (j : Int) := by omega
      have hhl : (h : Int) < (D.length : Int) := by omega
      clear hx hat hh hlt
      go_upto_region 5 with fail
      rw [HHI.out]
      clear HHI
      go_wp2_with fail
      refine HCM.out.mono ?_
      rintro e wn ⟨rfl, hwn⟩
      subst hwn
      clear C0 HCM
      by_cases hpd : p < d
      · have HI2 : Hid (SrD D d (h + 1) j) := Lib.hid ⟨fun k s hk hs => by
          by_cases hkh : k = h
          · rw [hkh, HX.out] at hs
            injection hs with hs
            rw [← hs]
            exact hpd
          · have hkl := (List.getElem?_eq_some_iff.1 hs)
            have := List.pairwise_iff_getElem.1 HP.out k h (by have := hkl.1; omega) (by omega) (by omega)
            rw [hkl.2, (List.getElem?_eq_some_iff.1 HX.out).2] at this
            omega, HI.out.hi⟩
        rw [decide_eq_true hpd]
        go_wp2
        exact ⟨⟨h + 1, j, by omega, hj, by go_num, rfl, HI2, by first | trivial | rfl⟩, by simp [intOf]; omega⟩
      · have HI2 : Hid (SrD D d i h) := Lib.hid ⟨HI.out.lo, fun k s hk hs => by
          by_cases hkh : k = h
          · rw [hkh, HX.out] at hs
            injection hs with hs
            rw [← hs]
            omega
          · have hkl := (List.getElem?_eq_some_iff.1 hs)
            have := List.pairwise_iff_getElem.1 HP.out h k (by omega) (by have := hkl.1; omega) (by omega)
            rw [hkl.2, (List.getElem?_eq_some_iff.1 HX.out).2] at this
            omega⟩
        rw [decide_eq_false hpd]
        go_wp2
        exact ⟨⟨i, h, by omega, by omega, rfl, by go_num, HI2, by first | trivial | rfl⟩, by simp [intOf]; omega⟩
    · obtain rfl : i = j := by omega
      have HME := Lib.hid (HI.out.mem HP.out)
      clear hlt hij
      by_cases hil : i < D.length
      · obtain ⟨p, hx⟩ : ∃ x, D[i]? = some x := ⟨_, List.getElem?_eq_getElem (by omega)⟩
        obtain ⟨g, o, rfl, _, hat⟩ := HS.out (by intro h; simp [h] at hx)
        have C0 : w.cell? ⟨g, o + i, none⟩ = some (.int .i64 p) := by
          have := hat i _ hx 0 _ rfl
          simpa using this
        have hil2 : (i : Int) < (D.length : Int) := by omega
        have HX := Lib.hid hx
        clear hx hat hil
        by_cases hpd : p = d
        · subst hpd
          have HM : Hid (memB D p = true) := Lib.hid (decide_eq_true (HME.out.2 HX.out))
          go_wp2
          go_ret2
          first | exact ⟨i, by rw [HM.out]; rfl, by first | trivial | rfl⟩ | exact ⟨⟨i, by rw [HM.out]; rfl⟩, by first | trivial | rfl⟩
        · have HM : Hid (memB D d = false) := Lib.hid (decide_eq_false fun h => by
            have := HME.out.1 h
            rw [HX.out] at this
            injection this with this
            exact hpd this)
          have hpq : (p == d) = false := beq_eq_false_iff_ne.2 hpd
          have HNN := Lib.hid (dd_isNaN2 p w)
          clear hpd
          go_wp2_with fail
          refine HNN.out.mono ?_
          rintro e wz ⟨rfl, hwz⟩
          subst hwz
          go_wp2
          go_ret2
          first | exact ⟨i, by rw [HM.out]; rfl, by first | trivial | rfl⟩ | exact ⟨⟨i, by rw [HM.out]; rfl⟩, by first | trivial | rfl⟩
      · have HM : Hid (memB D d = false) := Lib.hid (decide_eq_false fun h => by
          have := HME.out.1 h
          rw [List.getElem?_eq_none (by omega)] at this
          cases this)
        have hil2 : ¬ (i : Int) < (D.length : Int) := by omega
        clear hil
        go_wp2
        go_ret2
        first | exact ⟨i, by rw [HM.out]; rfl, by first | trivial | rfl⟩ | exact ⟨⟨i, by rw [HM.out]; rfl⟩, by first | trivial | rfl⟩
/-- A right pattern's minutes on a day of the calendar. -/
def onV (h : Nat → Int) (D : List Int) (d : Int) : Int := if memB D d = true then 0 else h ((d + 25567) % 7).toNat
theorem rightB_at {h : Nat → Int} (hr : rightB h = true) {k : Nat} (hk : k < 7) : 0 ≤ h k ∧ h k ≤ 1440 := by
  unfold rightB at hr
  rw [List.all_eq_true] at hr
  exact of_decide_eq_true (hr k (List.mem_range.2 hk))
theorem onV_bd {h : Nat → Int} (hr : rightB h = true) (D : List Int) (d : Int) : 0 ≤ onV h D d ∧ onV h D d ≤ 1440 := by
  unfold onV
  split
  · omega
  · exact rightB_at hr (by omega)
set_option maxHeartbeats 4000000 in
set_option maxRecDepth 100000 in
theorem wk_on (h : Nat → Int) (D : List Int) (A : Option Addr) (c : Nat) (d : Int) (w : World) (hn : D.length ≤ 100000) (hp : D.Pairwise (· < ·)) (hd : -25567 ≤ d ∧ d ≤ 84005) (hs : Sl encDd 1 w w.heap.size A D) :
    Calls Tryz.prog 47 #[.agg #[.int .i64 (h 0), .int .i64 (h 1), .int .i64 (h 2), .int .i64 (h 3), .int .i64 (h 4), .int .i64 (h 5), .int .i64 (h 6), .slice A D.length c], .int .i64 d] w fun e w' => e = .returned (.int .i64 (onV h D d)) ∧ Below w.heap.size w w' := by
  obtain ⟨pb, hpb⟩ : ∃ z, w.heap.size = z := ⟨_, rfl⟩
  obtain ⟨w2, hw2⟩ : ∃ z, w.alloc (.cells #[.int .i64 (h 0), .int .i64 (h 1), .int .i64 (h 2), .int .i64 (h 3), .int .i64 (h 4), .int .i64 (h 5), .int .i64 (h 6), .slice A D.length c] 58) = z := ⟨_, rfl⟩
  have hb2 : Below w.heap.size w w2 := by rw [← hw2]; exact bAlloc _ _
  have HB2 := Lib.hid hb2
  have HK2 : Hid (Bk pb 58 #[.int .i64 (h 0), .int .i64 (h 1), .int .i64 (h 2), .int .i64 (h 3), .int .i64 (h 4), .int .i64 (h 5), .int .i64 (h 6), .slice A D.length c] w2) := Lib.hid (by rw [← hw2, ← hpb]; exact Bk.new _ _ _)
  have HSE := Lib.hid (sl_BSearch D A c d w2 hn hp (sl_bel hs hb2))
  have HWD : Hid (Calls Tryz.prog 37 #[.int .i64 d] w2 fun e w' => e = .returned (.int .i64 ((d + 25567) % 7)) ∧ w2 = w') := Lib.hid (by
    have h := civ_Weekday d w2 (by omega)
    rwa [show wdV d = (d + 25567) % 7 by unfold wdV; rw [if_pos hd]] at h)
  have HE := Lib.hid (And.intro hpb hw2)
  obtain ⟨k, hk⟩ : ∃ k : Nat, (d + 25567) % 7 = (k : Int) := ⟨((d + 25567) % 7).toNat, by omega⟩
  have hk7 : k < 7 := by omega
  have HV : Hid (onV h D d = if memB D d = true then 0 else h k) := Lib.hid (by unfold onV; rw [hk]; rfl)
  have CK : w2.cell? ⟨pb, k, none⟩ = some (.int .i64 (h k)) := by
    have hlt7 : k = 0 ∨ k = 1 ∨ k = 2 ∨ k = 3 ∨ k = 4 ∨ k = 5 ∨ k = 6 := by omega
    rcases hlt7 with rfl | rfl | rfl | rfl | rfl | rfl | rfl <;> exact HK2.out.cell _
  obtain ⟨mb, hmb⟩ : ∃ mb, memB D d = mb := ⟨_, rfl⟩
  rw [hmb] at HV HSE
  rw [hk] at HWD
  have C7 : w2.cell? ⟨pb, 7, none⟩ = some (.slice A D.length c) := HK2.out.cell 7
  clear hs hb2 hw2 hpb hmb hk hd hp
  go_enter Tryz.func47, Tryz.ntmps47
  go_upto_region 1 with fail
  rw [HE.out.1, HE.out.2]
  clear HE
  go_wp2_with fail
  refine HSE.out.mono ?_
  rintro e wz ⟨i, rfl, hwz⟩
  subst hwz
  clear HSE
  cases mb with
  | true =>
    go_wp2
    go_ret
    exact ⟨by rw [HV.out]; rfl, HB2.out⟩
  | false =>
    have hk7' : (k : Int) < 7 := by omega
    go_wp2_with fail
    refine HWD.out.mono ?_
    rintro e wz ⟨rfl, hwz⟩
    subst hwz
    go_wp2
    go_ret
    exact ⟨by rw [HV.out]; rfl, HB2.out⟩
end Go.Proofs.YtmngghglcgmkeaaGreatDoor

namespace Go.Proofs.YtmngghglcgmkeaaGreatDoor
open Go.RowKit Go.Sort

def eq7w (f g : Nat → Int) : Bool := decide (f 0 = g 0 ∧ f 1 = g 1 ∧ f 2 = g 2 ∧ f 3 = g 3 ∧ f 4 = g 4 ∧ f 5 = g 5 ∧ f 6 = g 6)
theorem tabW {w w' : World} (hT : Tab w) (hb : Below w.heap.size w w') : Tab w' := ⟨Nat.lt_of_lt_of_le hT.1 hb.size, fun i hi => bCell hb (hT.2 i hi)⟩
def sumD (f : Int → Int) (F : Int) : Nat → Int
  | 0 => 0
  | n + 1 => sumD f F n + f (F + n)
def oneD (f : Int → Int) (d : Int) : Int := if f d = 0 then 0 else 1
theorem sumD_bd {f : Int → Int} {m : Int} (h : ∀ d, 0 ≤ f d ∧ f d ≤ m) (F : Int) : ∀ n : Nat, 0 ≤ sumD f F n ∧ sumD f F n ≤ m * n
  | 0 => by simp [sumD]
  | n + 1 => by
    have h1 := sumD_bd h F n
    have h2 := h (F + n)
    rw [sumD, Int.natCast_add, Int.mul_add]
    omega
theorem sumD_zero {f : Int → Int} (h : ∀ d, f d = 0) (F : Int) : ∀ n : Nat, sumD f F n = 0
  | 0 => rfl
  | n + 1 => by rw [sumD, sumD_zero h F n, h]; rfl
theorem oneD_bd (f : Int → Int) (d : Int) : 0 ≤ oneD f d ∧ oneD f d ≤ 1 := by unfold oneD; split <;> omega
def loD (F : Int) : Int := max F (-25567)
def hiD (U : Int) : Int := min U 84006
def lenD (F U : Int) : Nat := (hiD U - loD F).toNat
def wkM (h : Nat → Int) (D : List Int) (F U : Int) : Int := if chkP h D = 0 then sumD (onV h D) (loD F) (lenD F U) else 0
def wkN (h : Nat → Int) (D : List Int) (F U : Int) : Int := if chkP h D = 0 then sumD (oneD (onV h D)) (loD F) (lenD F U) else 0
theorem chkP_ok {h : Nat → Int} {D : List Int} (hc : chkP h D = 0) : rightB h = true ∧ D.length ≤ 4096 ∧ D.Pairwise (· < ·) ∧ ∀ d ∈ D, -25567 ≤ d ∧ d ≤ 84005 := by
  unfold chkP at hc
  by_cases h1 : rightB h = false
  · rw [if_pos h1] at hc; simp at hc
  · rw [if_neg h1] at hc
    by_cases h2 : 4096 < D.length
    · rw [if_pos h2] at hc; simp at hc
    · rw [if_neg h2] at hc
      have h3 := frE_ok hc
      exact ⟨by simpa using h1, by omega, h3.1, h3.2.1⟩
theorem onV_zero {h : Nat → Int} (D : List Int) (d : Int) (hz : eq7w h zero7 = true) : onV h D d = 0 := by
  unfold onV
  split
  · rfl
  · have hz := of_decide_eq_true hz
    obtain ⟨k, hk⟩ : ∃ k, ((d + 25567) % 7).toNat = k := ⟨_, rfl⟩
    have hk7 : k = 0 ∨ k = 1 ∨ k = 2 ∨ k = 3 ∨ k = 4 ∨ k = 5 ∨ k = 6 := by omega
    rw [hk]
    unfold zero7 at hz
    rcases hk7 with rfl | rfl | rfl | rfl | rfl | rfl | rfl <;> omega
set_option maxHeartbeats 4000000 in
set_option maxRecDepth 100000 in
theorem eqW0 (f g : Nat → Int) (w : World) : (Op.equalIn 10000 55 (.agg #[.int .i64 (f 0), .int .i64 (f 1), .int .i64 (f 2), .int .i64 (f 3), .int .i64 (f 4), .int .i64 (f 5), .int .i64 (f 6)]) (.agg #[.int .i64 (g 0), .int .i64 (g 1), .int .i64 (g 2), .int .i64 (g 3), .int .i64 (g 4), .int .i64 (g 5), .int .i64 (g 6)])).run Tryz.prog w = .ok (eq7w f g) w := by
  have u3 := Tryz.underlying3
  have a3 := Tryz.isAgg3
  have z3 := Tryz.sizeOf3
  rw [show (10000 : Nat) = 9999 + 1 from rfl, Op.equalIn]
  simp only [Sem.run_bind, run_underlying Tryz.underlying55, Result.andThen_ok]
  simp only [Std.Legacy.Range.forIn_eq_forIn_range', Std.Legacy.Range.size, Nat.sub_zero, Nat.add_sub_cancel, Nat.div_one, List.range'_succ, List.range'_zero, List.forIn_cons, List.forIn_nil]
  go_simp
  unfold eq7w
  by_cases h0 : f 0 = g 0 <;> by_cases h1 : f 1 = g 1 <;> by_cases h2 : f 2 = g 2 <;> by_cases h3 : f 3 = g 3 <;> by_cases h4 : f 4 = g 4 <;> by_cases h5 : f 5 = g 5 <;> by_cases h6 : f 6 = g 6 <;> simp [h0, h1, h2, h3, h4, h5, h6]
set_option maxHeartbeats 4000000 in
set_option maxRecDepth 100000 in
theorem wk_worked (h : Nat → Int) (D : List Int) (A : Option Addr) (c : Nat) (F U : Int) (w : World) (hn : D.length ≤ 9223372036854775807) (hd : ∀ d ∈ D, -9223372036854775808 ≤ d ∧ d ≤ 9223372036854775807) (hs : Sl encDd 1 w w.heap.size A D) (hT : Tab w) :
    Calls Tryz.prog 76 #[.agg #[.int .i64 (h 0), .int .i64 (h 1), .int .i64 (h 2), .int .i64 (h 3), .int .i64 (h 4), .int .i64 (h 5), .int .i64 (h 6), .slice A D.length c], .agg #[.int .i64 F, .int .i64 U]] w fun e w' => e = .returned (.tuple #[.int .i64 (wkM h D F U), .int .i64 (wkN h D F U)]) ∧ Below w.heap.size w w' := by
  obtain ⟨pb, hpb⟩ : ∃ z, w.heap.size = z := ⟨_, rfl⟩
  obtain ⟨sb, hsb⟩ : ∃ z, pb + 1 = z := ⟨_, rfl⟩
  obtain ⟨w2, hw2⟩ : ∃ z, (w.alloc (.cells #[.int .i64 (h 0), .int .i64 (h 1), .int .i64 (h 2), .int .i64 (h 3), .int .i64 (h 4), .int .i64 (h 5), .int .i64 (h 6), .slice A D.length c] 58)).alloc (.cells #[.int .i64 F, .int .i64 U] 28) = z := ⟨_, rfl⟩
  obtain ⟨k1, k2, hb2⟩ := bkk2 w _ _ _ _ hpb hsb hw2
  have HB2 := Lib.hid hb2
  have HS2 := Lib.hid (sl_bel hs hb2)
  have hT2 := tabW hT hb2
  have HCK := Lib.hid (wk_Check h D A c w2 hn HS2.out hd)
  have HKC : Hid (∀ W, Below w2.heap.size w2 W → (W.cell? ⟨pb, 0, none⟩ = some (.int .i64 (h 0)) ∧ W.cell? ⟨pb, 1, none⟩ = some (.int .i64 (h 1)) ∧ W.cell? ⟨pb, 2, none⟩ = some (.int .i64 (h 2)) ∧ W.cell? ⟨pb, 3, none⟩ = some (.int .i64 (h 3)) ∧ W.cell? ⟨pb, 4, none⟩ = some (.int .i64 (h 4)) ∧ W.cell? ⟨pb, 5, none⟩ = some (.int .i64 (h 5)) ∧ W.cell? ⟨pb, 6, none⟩ = some (.int .i64 (h 6)) ∧ W.cell? ⟨pb, 7, none⟩ = some (.slice A D.length c)) ∧ W.cell? ⟨sb, 0, none⟩ = some (.int .i64 F) ∧ W.cell? ⟨sb, 1, none⟩ = some (.int .i64 U)) := Lib.hid fun W hW =>
    ⟨⟨bCell hW (k1.cell 0), bCell hW (k1.cell 1), bCell hW (k1.cell 2), bCell hW (k1.cell 3), bCell hW (k1.cell 4), bCell hW (k1.cell 5), bCell hW (k1.cell 6), bCell hW (k1.cell 7)⟩, bCell hW (k2.cell 0), bCell hW (k2.cell 1)⟩
  have e1 : Cal.num 1900 1 1 - 25567 = -25567 := by decide
  have e2 : Cal.num 2199 12 31 - 25567 = 84005 := by decide
  have HO1 : Hid (∀ W, Below w2.heap.size w2 W → Calls Tryz.prog 69 #[.agg #[.int .i64 1900, .int .i64 1, .int .i64 1]] W fun e w' => e = .returned (.tuple #[.int .i64 (-25567), .int .i64 0]) ∧ Below W.heap.size W w') := Lib.hid fun W hW => by
    have h := civ_Of 1900 1 1 W (tabW hT2 hW) ok_first
    rw [e1] at h
    exact h.mono fun e w' ⟨h1, h2⟩ => ⟨h1, h2.below⟩
  have HO2 : Hid (∀ W, Below w2.heap.size w2 W → Calls Tryz.prog 69 #[.agg #[.int .i64 2199, .int .i64 12, .int .i64 31]] W fun e w' => e = .returned (.tuple #[.int .i64 84005, .int .i64 0]) ∧ Below W.heap.size W w') := Lib.hid fun W hW => by
    have h := civ_Of 2199 12 31 W (tabW hT2 hW) ok_last
    rw [e2] at h
    exact h.mono fun e w' ⟨h1, h2⟩ => ⟨h1, h2.below⟩
  have HM : Hid (wkM h D F U = if chkP h D = 0 then sumD (onV h D) (loD F) (lenD F U) else 0) := Lib.hid rfl
  have HN : Hid (wkN h D F U = if chkP h D = 0 then sumD (oneD (onV h D)) (loD F) (lenD F U) else 0) := Lib.hid rfl
  obtain ⟨rm, hrm⟩ : ∃ z, wkM h D F U = z := ⟨_, rfl⟩
  obtain ⟨rn, hrn⟩ : ∃ z, wkN h D F U = z := ⟨_, rfl⟩
  rw [hrm] at HM ⊢
  rw [hrn] at HN ⊢
  have HE := Lib.hid (And.intro hpb (And.intro hsb hw2))
  have HCO : Hid (chkP h D = 0 → ∀ d W, -25567 ≤ d → d ≤ 84005 → Below w2.heap.size w2 W → Calls Tryz.prog 47 #[.agg #[.int .i64 (h 0), .int .i64 (h 1), .int .i64 (h 2), .int .i64 (h 3), .int .i64 (h 4), .int .i64 (h 5), .int .i64 (h 6), .slice A D.length c], .int .i64 d] W fun e w' => e = .returned (.int .i64 (onV h D d)) ∧ Below W.heap.size W w') := Lib.hid fun hc d W h1 h2 hW => by
    obtain ⟨g1, g2, g3, g4⟩ := chkP_ok hc
    exact wk_on h D A c d W (by omega) g3 ⟨h1, h2⟩ (sl_bel HS2.out hW)
  have HRB : Hid (chkP h D = 0 → ∀ d, 0 ≤ onV h D d ∧ onV h D d ≤ 1440) := Lib.hid fun hc d => onV_bd (chkP_ok hc).1 D d
  have HZ : Hid (eq7w h zero7 = true → ∀ d, onV h D d = 0) := Lib.hid fun hz d => onV_zero D d hz
  obtain ⟨ce, hce⟩ : ∃ ce, chkP h D = ce := ⟨_, rfl⟩
  obtain ⟨f, hf⟩ : ∃ f, onV h D = f := ⟨_, rfl⟩
  rw [hce] at HCK HM HN HCO HRB
  rw [hf] at HM HN HCO HRB HZ
  clear hs hb2 hw2 hpb hsb k1 k2 hrm hrn hce hf hT hT2 e1 e2 hd hn
  obtain ⟨⟨K0, K1, K2, K3, K4, K5, K6, K7⟩, S0, S1⟩ := HKC.out _ (Below.refl _ _)
  go_enter Tryz.func76, Tryz.ntmps76
  go_upto_region 1 with fail
  rw [HE.out.1, HE.out.2.1, HE.out.2.2]
  clear HE
  go_step3
  go_wp2_with fail
  refine HCK.out.mono ?_
  rintro e w3 ⟨rfl, hb3⟩
  have HB3 := Lib.hid hb3
  clear hb3 HCK K0 K1 K2 K3 K4 K5 K6 K7 S0 S1
  obtain ⟨⟨K0, K1, K2, K3, K4, K5, K6, K7⟩, S0, S1⟩ := HKC.out _ HB3.out
  by_cases hc : ce = 0
  · subst hc
    have HM0 : Hid (rm = sumD f (loD F) (lenD F U)) := Lib.hid (by have h := HM.out; rwa [if_pos rfl] at h)
    have HN0 : Hid (rn = sumD (oneD f) (loD F) (lenD F U)) := Lib.hid (by have h := HN.out; rwa [if_pos rfl] at h)
    have HCO0 := Lib.hid (HCO.out rfl)
    have HRB0 := Lib.hid (HRB.out rfl)
    obtain ⟨zq, hzq⟩ : ∃ zq, eq7w h zero7 = zq := ⟨_, rfl⟩
    have hw := eqW0 h zero7
    rw [hzq] at hw
    simp only [zero7] at hw
    rw [hzq] at HZ
    clear hzq
    cases zq with
    | true =>
      have HF : Hid (rm = 0 ∧ rn = 0 ∧ Below w.heap.size w w3) := Lib.hid ⟨by rw [HM.out, if_pos rfl]; exact sumD_zero (HZ.out rfl) _ _, by rw [HN.out, if_pos rfl]; exact sumD_zero (fun d => by unfold oneD; rw [if_pos (HZ.out rfl d)]) _ _, bTrans HB2.out HB3.out⟩
      go_wp2
      try rw [Exit.noGoto_ret]
      go_ret2
      exact ⟨by rw [HF.out.1, HF.out.2.1]; rfl, HF.out.2.2⟩
    | false =>
      have HO1' := Lib.hid (HO1.out _ HB3.out)
      go_wp2_with fail
      refine HO1'.out.mono ?_
      rintro e w4 ⟨rfl, hb4⟩
      have HB4 := Lib.hid (bTrans HB3.out hb4)
      have HO2' := Lib.hid (HO2.out _ HB4.out)
      clear hb4 HO1' HO1 HO2 hw HZ
      go_wp2_with fail
      refine HO2'.out.mono ?_
      rintro e w5 ⟨rfl, hb5⟩
      have HB5 := Lib.hid (bTrans HB4.out hb5)
      clear hb5 HO2' K0 K1 K2 K3 K4 K5 K6 K7 S0 S1
      obtain ⟨_, S0, S1⟩ := HKC.out _ HB5.out
      obtain ⟨lo, hlo⟩ : ∃ lo, loD F = lo := ⟨_, rfl⟩
      obtain ⟨hi, hhi⟩ : ∃ hi, hiD U = hi := ⟨_, rfl⟩
      have hmx : max F (-25567) = lo := hlo
      have hmi : min U 84006 = hi := hhi
      have hlo1 : -25567 ≤ lo := by omega
      have hhi1 : hi ≤ 84006 := by omega
      have HLN : Hid (lenD F U = (hi - lo).toNat) := Lib.hid (by unfold lenD; rw [hlo, hhi])
      rw [hlo] at HM0 HN0
      clear HM HN HCO HRB hlo hhi
      go_wp2
      go_step3
      go_wp2
      try simp only [hmx]
      clear S0 S1
      go_loopw [10, 11, 12] (fun mv nv dv wr => ∃ k : Nat, (k = 0 ∨ lo + k ≤ hi) ∧ dv = .int .i64 (lo + k) ∧ (∃ x y : Int, mv = .int .i64 x ∧ nv = .int .i64 y ∧ Hid (sumD f lo k = x ∧ sumD (oneD f) lo k = y)) ∧ Hid (Below w2.heap.size w2 wr)) (fun _ _ dv _ => (hi - intOf dv).toNat)
      case atStart => exact ⟨0, .inl rfl, by first | rfl | (congr 1; omega) | (simp; done), ⟨0, 0, rfl, rfl, Lib.hid ⟨rfl, rfl⟩⟩, HB5⟩
      case round =>
        obtain ⟨k, hk, rfl, ⟨x, y, rfl, rfl, HXY⟩, HB⟩ := hrel
        obtain ⟨_, S0, S1⟩ := HKC.out _ HB.out
        have hxy : (0 ≤ x ∧ x ≤ 1440 * k) ∧ (0 ≤ y ∧ y ≤ 1 * k) := by
          rw [← HXY.out.1, ← HXY.out.2]
          exact ⟨sumD_bd HRB0.out lo k, sumD_bd (oneD_bd f) lo k⟩
        obtain ⟨d, hd⟩ : ∃ d, lo + k = d := ⟨_, rfl⟩
        rw [hd]
        by_cases hlt : d < hi
        · have hkb : (k : Int) ≤ 109573 := by omega
          have hd1 : -25567 ≤ d ∧ d ≤ 84005 := by omega
          have HON := Lib.hid (HCO0.out d wr hd1.1 hd1.2 HB.out)
          obtain ⟨n, hn⟩ : ∃ n, f d = n := ⟨_, rfl⟩
          have HSX : Hid (sumD f lo (k + 1) = x + n ∧ sumD (oneD f) lo (k + 1) = y + if n = 0 then 0 else 1) := Lib.hid ⟨by rw [sumD, HXY.out.1, hd, hn], by rw [sumD, HXY.out.2, hd]; unfold oneD; rw [hn]⟩
          have hn1 : 0 ≤ n ∧ n ≤ 1440 := by rw [← hn]; exact HRB0.out d
          have HD1 : Hid (lo + ((k + 1 : Nat) : Int) = d + 1) := Lib.hid (by omega)
          rw [hn] at HON
          have hmi2 := hmi
          obtain ⟨⟨K0, K1, K2, K3, K4, K5, K6, K7⟩, _, _⟩ := HKC.out _ HB.out
          clear hd hn
          go_wp2_with fail
          refine HON.out.mono ?_
          rintro e wn ⟨rfl, hbn⟩
          have HBN := Lib.hid (bTrans HB.out hbn)
          clear hbn K0 K1 K2 K3 K4 K5 K6 K7 S0 S1 HON
          by_cases hn0 : n = 0
          · subst hn0
            go_wp2
            exact ⟨⟨k + 1, .inr (by rw [HD1.out]; omega), by rw [HD1.out], ⟨x, y, rfl, rfl, Lib.hid ⟨by rw [HSX.out.1]; omega, by rw [HSX.out.2]; simp⟩⟩, HBN⟩, by simp [intOf]; omega⟩
          · have hnq : (n == 0) = false := beq_eq_false_iff_ne.2 hn0
            go_wp2
            exact ⟨⟨k + 1, .inr (by rw [HD1.out]; omega), by rw [HD1.out], ⟨x + n, y + 1, by go_num, by go_num, Lib.hid ⟨by rw [HSX.out.1], by rw [HSX.out.2, if_neg hn0]⟩⟩, HBN⟩, by simp [intOf]; omega⟩
        · have HK : Hid (k = lenD F U) := Lib.hid (by rw [HLN.out]; omega)
          have HF : Hid (rm = x ∧ rn = y ∧ Below w.heap.size w wr) := Lib.hid ⟨by rw [HM0.out, ← HK.out, HXY.out.1], by rw [HN0.out, ← HK.out, HXY.out.2], bTrans HB2.out HB.out⟩
          clear hd
          go_wp2
          try rw [Exit.noGoto_ret]
          go_ret2
          exact ⟨by rw [HF.out.1, HF.out.2.1]; rfl, HF.out.2.2⟩
  · have HF : Hid (rm = 0 ∧ rn = 0 ∧ Below w.heap.size w w3) := Lib.hid ⟨by rw [HM.out, if_neg hc], by rw [HN.out, if_neg hc], bTrans HB2.out HB3.out⟩
    have hcq : (ce == 0) = false := beq_eq_false_iff_ne.2 hc
    have hcn : (ce != 0) = true := bne_iff_ne.2 hc
    go_wp2
    try rw [Exit.noGoto_ret]
    go_ret2
    exact ⟨by rw [HF.out.1, HF.out.2.1]; rfl, HF.out.2.2⟩
set_option maxHeartbeats 2000000 in
theorem wk_Minutes (h : Nat → Int) (D : List Int) (A : Option Addr) (c : Nat) (F U : Int) (w : World) (hn : D.length ≤ 9223372036854775807) (hd : ∀ d ∈ D, -9223372036854775808 ≤ d ∧ d ≤ 9223372036854775807) (hs : Sl encDd 1 w w.heap.size A D) (hT : Tab w) :
    Calls Tryz.prog 50 #[.agg #[.int .i64 (h 0), .int .i64 (h 1), .int .i64 (h 2), .int .i64 (h 3), .int .i64 (h 4), .int .i64 (h 5), .int .i64 (h 6), .slice A D.length c], .agg #[.int .i64 F, .int .i64 U]] w fun e w' => e = .returned (.int .i64 (wkM h D F U)) ∧ Below w.heap.size w w' := by
  obtain ⟨pb, hpb⟩ : ∃ z, w.heap.size = z := ⟨_, rfl⟩
  obtain ⟨sb, hsb⟩ : ∃ z, pb + 1 = z := ⟨_, rfl⟩
  obtain ⟨w2, hw2⟩ : ∃ z, (w.alloc (.cells #[.int .i64 (h 0), .int .i64 (h 1), .int .i64 (h 2), .int .i64 (h 3), .int .i64 (h 4), .int .i64 (h 5), .int .i64 (h 6), .slice A D.length c] 58)).alloc (.cells #[.int .i64 F, .int .i64 U] 28) = z := ⟨_, rfl⟩
  obtain ⟨k1, k2, hb2⟩ := bkk2 w _ _ _ _ hpb hsb hw2
  have HB2 := Lib.hid hb2
  have HWK := Lib.hid (wk_worked h D A c F U w2 hn hd (sl_bel hs hb2) (tabW hT hb2))
  have HE := Lib.hid (And.intro hpb (And.intro hsb hw2))
  have K0 : w2.cell? ⟨pb, 0, none⟩ = some (.int .i64 (h 0)) := k1.cell 0
  have K1 : w2.cell? ⟨pb, 1, none⟩ = some (.int .i64 (h 1)) := k1.cell 1
  have K2 : w2.cell? ⟨pb, 2, none⟩ = some (.int .i64 (h 2)) := k1.cell 2
  have K3 : w2.cell? ⟨pb, 3, none⟩ = some (.int .i64 (h 3)) := k1.cell 3
  have K4 : w2.cell? ⟨pb, 4, none⟩ = some (.int .i64 (h 4)) := k1.cell 4
  have K5 : w2.cell? ⟨pb, 5, none⟩ = some (.int .i64 (h 5)) := k1.cell 5
  have K6 : w2.cell? ⟨pb, 6, none⟩ = some (.int .i64 (h 6)) := k1.cell 6
  have K7 : w2.cell? ⟨pb, 7, none⟩ = some (.slice A D.length c) := k1.cell 7
  have S0 : w2.cell? ⟨sb, 0, none⟩ = some (.int .i64 F) := k2.cell 0
  have S1 : w2.cell? ⟨sb, 1, none⟩ = some (.int .i64 U) := k2.cell 1
  obtain ⟨rv, hrv⟩ : ∃ z, wkM h D F U = z := ⟨_, rfl⟩
  have HRV := Lib.hid hrv
  clear hpb hsb hw2 k1 k2 hb2 hs hT hd hn hrv
  go_enter Tryz.func50, Tryz.ntmps50
  go_upto_region 1 with fail
  rw [HE.out.1, HE.out.2.1, HE.out.2.2]
  clear HE
  go_wp2_with fail
  refine HWK.out.mono ?_
  rintro e w3 ⟨rfl, hb3⟩
  have HF := Lib.hid (bTrans HB2.out hb3)
  clear hb3 HWK K0 K1 K2 K3 K4 K5 K6 K7 S0 S1
  go_wp2
  go_ret
  exact ⟨rfl, HF.out⟩
set_option maxHeartbeats 2000000 in
theorem wk_Days (h : Nat → Int) (D : List Int) (A : Option Addr) (c : Nat) (F U : Int) (w : World) (hn : D.length ≤ 9223372036854775807) (hd : ∀ d ∈ D, -9223372036854775808 ≤ d ∧ d ≤ 9223372036854775807) (hs : Sl encDd 1 w w.heap.size A D) (hT : Tab w) :
    Calls Tryz.prog 51 #[.agg #[.int .i64 (h 0), .int .i64 (h 1), .int .i64 (h 2), .int .i64 (h 3), .int .i64 (h 4), .int .i64 (h 5), .int .i64 (h 6), .slice A D.length c], .agg #[.int .i64 F, .int .i64 U]] w fun e w' => e = .returned (.int .i64 (wkN h D F U)) ∧ Below w.heap.size w w' := by
  obtain ⟨pb, hpb⟩ : ∃ z, w.heap.size = z := ⟨_, rfl⟩
  obtain ⟨sb, hsb⟩ : ∃ z, pb + 1 = z := ⟨_, rfl⟩
  obtain ⟨w2, hw2⟩ : ∃ z, (w.alloc (.cells #[.int .i64 (h 0), .int .i64 (h 1), .int .i64 (h 2), .int .i64 (h 3), .int .i64 (h 4), .int .i64 (h 5), .int .i64 (h 6), .slice A D.length c] 58)).alloc (.cells #[.int .i64 F, .int .i64 U] 28) = z := ⟨_, rfl⟩
  obtain ⟨k1, k2, hb2⟩ := bkk2 w _ _ _ _ hpb hsb hw2
  have HB2 := Lib.hid hb2
  have HWK := Lib.hid (wk_worked h D A c F U w2 hn hd (sl_bel hs hb2) (tabW hT hb2))
  have HE := Lib.hid (And.intro hpb (And.intro hsb hw2))
  have K0 : w2.cell? ⟨pb, 0, none⟩ = some (.int .i64 (h 0)) := k1.cell 0
  have K1 : w2.cell? ⟨pb, 1, none⟩ = some (.int .i64 (h 1)) := k1.cell 1
  have K2 : w2.cell? ⟨pb, 2, none⟩ = some (.int .i64 (h 2)) := k1.cell 2
  have K3 : w2.cell? ⟨pb, 3, none⟩ = some (.int .i64 (h 3)) := k1.cell 3
  have K4 : w2.cell? ⟨pb, 4, none⟩ = some (.int .i64 (h 4)) := k1.cell 4
  have K5 : w2.cell? ⟨pb, 5, none⟩ = some (.int .i64 (h 5)) := k1.cell 5
  have K6 : w2.cell? ⟨pb, 6, none⟩ = some (.int .i64 (h 6)) := k1.cell 6
  have K7 : w2.cell? ⟨pb, 7, none⟩ = some (.slice A D.length c) := k1.cell 7
  have S0 : w2.cell? ⟨sb, 0, none⟩ = some (.int .i64 F) := k2.cell 0
  have S1 : w2.cell? ⟨sb, 1, none⟩ = some (.int .i64 U) := k2.cell 1
  obtain ⟨rv, hrv⟩ : ∃ z, wkN h D F U = z := ⟨_, rfl⟩
  have HRV := Lib.hid hrv
  clear hpb hsb hw2 k1 k2 hb2 hs hT hd hn hrv
  go_enter Tryz.func51, Tryz.ntmps51
  go_upto_region 1 with fail
  rw [HE.out.1, HE.out.2.1, HE.out.2.2]
  clear HE
  go_wp2_with fail
  refine HWK.out.mono ?_
  rintro e w3 ⟨rfl, hb3⟩
  have HF := Lib.hid (bTrans HB2.out hb3)
  clear hb3 HWK K0 K1 K2 K3 K4 K5 K6 K7 S0 S1
  go_wp2
  go_ret
  exact ⟨rfl, HF.out⟩
end Go.Proofs.YtmngghglcgmkeaaGreatDoor
