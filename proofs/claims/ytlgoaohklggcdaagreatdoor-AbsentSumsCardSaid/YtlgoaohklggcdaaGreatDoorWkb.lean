import Derived.Test.YtlgoaohklggcdaaGreatDoorWka
import Derived.Test.YtlgoaohklggcdaaGreatDoorLna
import Derived.BigQuiet
/- week.Pattern: on, worked, Minutes, Days. -/
namespace Go.Proofs.YtlgoaohklggcdaaGreatDoor
open Go.RowKit Go.Sort

theorem dd_isNaN2 (x : Int) (w : World) : Calls Tryz.prog 177 #[.int .i64 x] w fun e w' => e = .returned (.bool false) ∧ w' = w := by
  go_enter Tryz.func177, Tryz.ntmps177
  go_wp2
  go_ret
  exact ⟨by simp, rfl⟩
theorem dd_Less (x y : Int) (w : World) : Calls Tryz.prog 176 #[.int .i64 x, .int .i64 y] w fun e w' => e = .returned (.bool (decide (x < y))) ∧ w' = w := by
  have HN := Lib.hid (dd_isNaN x w)
  go_enter Tryz.func176, Tryz.ntmps176
  by_cases h : x < y
  · have hl : Hid (decide (x < y) = true) := Lib.hid (decide_eq_true h)
    go_wp2
    go_ret
    exact ⟨by first | rfl | exact ret_b hl.out.symm, rfl⟩
  · have hl : Hid (decide (x < y) = false) := Lib.hid (decide_eq_false h)
    go_wp2_with fail
    refine HN.out.mono ?_
    rintro e wz ⟨rfl, hwz⟩
    subst hwz
    go_wp2
    go_ret
    exact ⟨by first | rfl | exact ret_b hl.out.symm, rfl⟩
def memB (D : List Int) (d : Int) : Bool := decide (d ∈ D)
structure SrD (D : List Int) (d : Int) (i j : Nat) : Prop where
  lo : ∀ k s, k < i → D[k]? = some s → s < d
  hi : ∀ k s, j ≤ k → D[k]? = some s → d ≤ s
theorem SrD.mem {D : List Int} {d : Int} {i : Nat} (h : SrD D d i i) (hp : D.Pairwise (· < ·)) : d ∈ D ↔ D[i]? = some d := by
  constructor
  · intro hd
    obtain ⟨k, hk⟩ := List.mem_iff_getElem?.1 hd
    have h1 : i ≤ k := by
      refine Nat.le_of_not_lt fun hlt => ?_
      have := h.lo k d hlt hk
      omega
    by_cases hik : k = i
    · rw [← hik]; exact hk
    · exfalso
      have hkl := List.getElem?_eq_some_iff.1 hk
      have hk1 := hkl.1
      have := List.pairwise_iff_getElem.1 hp i k (by omega) hkl.1 (by omega)
      rw [hkl.2] at this
      have := h.hi i _ (Nat.le_refl _) (List.getElem?_eq_getElem (by have := hkl.1; omega))
      omega
  · intro hd; exact List.mem_of_getElem? hd
set_option maxHeartbeats 4000000 in
set_option maxRecDepth 100000 in
theorem sl_BSearch (D : List Int) (A : Option Addr) (c : Nat) (d : Int) (w : World) (hn : D.length ≤ 100000) (hp : D.Pairwise (· < ·)) (hs : Sl encDd 1 w w.heap.size A D) :
    Calls Tryz.prog 138 #[.slice A D.length c, .int .i64 d] w fun e w' => ∃ i : Nat, e = .returned (.tuple #[.int .i64 i, .bool (memB D d)]) ∧ w = w' := by
  have HS := Lib.hid hs
  have HP := Lib.hid hp
  clear hs hp
  go_enter Tryz.func138, Tryz.ntmps138
  go_wp2
  go_loopw [7, 8] (fun iv jv wr => ∃ i j : Nat, i ≤ j ∧ j ≤ D.length ∧ iv = .int .i64 i ∧ jv = .int .i64 j ∧ Hid (SrD D d i j) ∧ w = wr) (fun iv jv _ => (intOf jv).toNat - (intOf iv).toNat)
  case atStart => exact ⟨0, D.length, Nat.zero_le _, Nat.le_refl _, rfl, rfl, Lib.hid ⟨fun k s h _ => absurd h (Nat.not_lt_zero _), fun k s h hk => absurd (List.getElem?_eq_some_iff.1 hk).1 (by omega)⟩, by first | trivial | rfl⟩
  case round =>
    obtain ⟨i, j, hij, hj, rfl, rfl, HI, hww⟩ := hrel
    subst hww
    by_cases hlt : i < j
    · obtain ⟨h, hh⟩ : ∃ h, (i + j) / 2 = h := ⟨_, rfl⟩
      have h1 : i ≤ h ∧ h < j := by omega
      obtain ⟨p, hx⟩ : ∃ x, D[h]? = some x := ⟨_, List.getElem?_eq_getElem (by omega)⟩
      obtain ⟨g, o, rfl, _, hat⟩ := HS.out (by intro h; simp [h] at hx)
      have C0 : w.cell? ⟨g, o + h, none⟩ = some (.int .i64 p) := by
        have := hat h _ hx 0 _ rfl
        simpa using this
      have HX := Lib.hid hx
      have HHI : Hid (((i : Int) + (j : Int)) / 2 = (h : Int)) := Lib.hid (by omega)
      have HCM := Lib.hid (dd_Less p d w)
      have hlt2 : (i : Int) < (j : Int) := by omega
      have hhl : (h : Int) < (D.length : Int) := by omega
      clear hx hat hh hlt
      go_upto_region 5 with fail
      rw [HHI.out]
      clear HHI
      go_wp2_with fail
      refine HCM.out.mono ?_
      rintro e wn ⟨rfl, hwn⟩
      subst hwn
      clear C0 HCM
      by_cases hpd : p < d
      · have HI2 : Hid (SrD D d (h + 1) j) := Lib.hid ⟨fun k s hk hs => by
          by_cases hkh : k = h
          · rw [hkh, HX.out] at hs
            injection hs with hs
            rw [← hs]
            exact hpd
          · have hkl := (List.getElem?_eq_some_iff.1 hs)
            have := List.pairwise_iff_getElem.1 HP.out k h (by have := hkl.1; omega) (by omega) (by omega)
            rw [hkl.2, (List.getElem?_eq_some_iff.1 HX.out).2] at this
            omega, HI.out.hi⟩
        rw [decide_eq_true hpd]
        go_wp2
        exact ⟨⟨h + 1, j, by omega, hj, by go_num, rfl, HI2, by first | trivial | rfl⟩, by simp [intOf]; omega⟩
      · have HI2 : Hid (SrD D d i h) := Lib.hid ⟨HI.out.lo, fun k s hk hs => by
          by_cases hkh : k = h
          · rw [hkh, HX.out] at hs
            injection hs with hs
            rw [← hs]
            omega
          · have hkl := (List.getElem?_eq_some_iff.1 hs)
            have := List.pairwise_iff_getElem.1 HP.out h k (by omega) (by have := hkl.1; omega) (by omega)
            rw [hkl.2, (List.getElem?_eq_some_iff.1 HX.out).2] at this
            omega⟩
        rw [decide_eq_false hpd]
        go_wp2
        exact ⟨⟨i, h, by omega, by omega, rfl, by go_num, HI2, by first | trivial | rfl⟩, by simp [intOf]; omega⟩
    · obtain rfl : i = j := by omega
      have HME := Lib.hid (HI.out.mem HP.out)
      clear hlt hij
      by_cases hil : i < D.length
      · obtain ⟨p, hx⟩ : ∃ x, D[i]? = some x := ⟨_, List.getElem?_eq_getElem (by omega)⟩
        obtain ⟨g, o, rfl, _, hat⟩ := HS.out (by intro h; simp [h] at hx)
        have C0 : w.cell? ⟨g, o + i, none⟩ = some (.int .i64 p) := by
          have := hat i _ hx 0 _ rfl
          simpa using this
        have hil2 : (i : Int) < (D.length : Int) := by omega
        have HX := Lib.hid hx
        clear hx hat hil
        by_cases hpd : p = d
        · subst hpd
          have HM : Hid (memB D p = true) := Lib.hid (decide_eq_true (HME.out.2 HX.out))
          go_wp2
          go_ret2
          first | exact ⟨i, by rw [HM.out]; rfl, by first | trivial | rfl⟩ | exact ⟨⟨i, by rw [HM.out]; rfl⟩, by first | trivial | rfl⟩
        · have HM : Hid (memB D d = false) := Lib.hid (decide_eq_false fun h => by
            have := HME.out.1 h
            rw [HX.out] at this
            injection this with this
            exact hpd this)
          have hpq : (p == d) = false := beq_eq_false_iff_ne.2 hpd
          have HNN := Lib.hid (dd_isNaN2 p w)
          clear hpd
          go_wp2_with fail
          refine HNN.out.mono ?_
          rintro e wz ⟨rfl, hwz⟩
          subst hwz
          go_wp2
          go_ret2
          first | exact ⟨i, by rw [HM.out]; rfl, by first | trivial | rfl⟩ | exact ⟨⟨i, by rw [HM.out]; rfl⟩, by first | trivial | rfl⟩
      · have HM : Hid (memB D d = false) := Lib.hid (decide_eq_false fun h => by
          have := HME.out.1 h
          rw [List.getElem?_eq_none (by omega)] at this
          cases this)
        have hil2 : ¬ (i : Int) < (D.length : Int) := by omega
        clear hil
        go_wp2
        go_ret2
        first | exact ⟨i, by rw [HM.out]; rfl, by first | trivial | rfl⟩ | exact ⟨⟨i, by rw [HM.out]; rfl⟩, by first | trivial | rfl⟩
/-- A right pattern's minutes on a day of the calendar. -/
def onV (h : Nat → Int) (D : List Int) (d : Int) : Int := if memB D d = true then 0 else h ((d + 25567) % 7).toNat
theorem rightB_at {h : Nat → Int} (hr : rightB h = true) {k : Nat} (hk : k < 7) : 0 ≤ h k ∧ h k ≤ 1440 := by
  unfold rightB at hr
  rw [List.all_eq_true] at hr
  exact of_decide_eq_true (hr k (List.mem_range.2 hk))
theorem onV_bd {h : Nat → Int} (hr : rightB h = true) (D : List Int) (d : Int) : 0 ≤ onV h D d ∧ onV h D d ≤ 1440 := by
  unfold onV
  split
  · omega
  · exact rightB_at hr (by omega)
set_option maxHeartbeats 4000000 in
set_option maxRecDepth 100000 in
theorem wk_on (h : Nat → Int) (D : List Int) (A : Option Addr) (c : Nat) (d : Int) (w : World) (hn : D.length ≤ 100000) (hp : D.Pairwise (· < ·)) (hd : -25567 ≤ d ∧ d ≤ 84005) (hs : Sl encDd 1 w w.heap.size A D) :
    Calls Tryz.prog 95 #[.agg #[.int .i64 (h 0), .int .i64 (h 1), .int .i64 (h 2), .int .i64 (h 3), .int .i64 (h 4), .int .i64 (h 5), .int .i64 (h 6), .slice A D.length c], .int .i64 d] w fun e w' => e = .returned (.int .i64 (onV h D d)) ∧ Below w.heap.size w w' := by
  obtain ⟨pb, hpb⟩ : ∃ z, w.heap.size = z := ⟨_, rfl⟩
  obtain ⟨w2, hw2⟩ : ∃ z, w.alloc (.cells #[.int .i64 (h 0), .int .i64 (h 1), .int .i64 (h 2), .int .i64 (h 3), .int .i64 (h 4), .int .i64 (h 5), .int .i64 (h 6), .slice A D.length c] 85) = z := ⟨_, rfl⟩
  have hb2 : Below w.heap.size w w2 := by rw [← hw2]; exact bAlloc _ _
  have HB2 := Lib.hid hb2
  have HK2 : Hid (Bk pb 85 #[.int .i64 (h 0), .int .i64 (h 1), .int .i64 (h 2), .int .i64 (h 3), .int .i64 (h 4), .int .i64 (h 5), .int .i64 (h 6), .slice A D.length c] w2) := Lib.hid (by rw [← hw2, ← hpb]; exact Bk.new _ _ _)
  have HSE := Lib.hid (sl_BSearch D A c d w2 hn hp (sl_bel hs hb2))
  have HWD : Hid (Calls Tryz.prog 87 #[.int .i64 d] w2 fun e w' => e = .returned (.int .i64 ((d + 25567) % 7)) ∧ w2 = w') := Lib.hid (by
    have h := civ_Weekday d w2 (by omega)
    rwa [show wdV d = (d + 25567) % 7 by unfold wdV; rw [if_pos hd]] at h)
  have HE := Lib.hid (And.intro hpb hw2)
  obtain ⟨k, hk⟩ : ∃ k : Nat, (d + 25567) % 7 = (k : Int) := ⟨((d + 25567) % 7).toNat, by omega⟩
  have hk7 : k < 7 := by omega
  have HV : Hid (onV h D d = if memB D d = true then 0 else h k) := Lib.hid (by unfold onV; rw [hk]; rfl)
  have CK : w2.cell? ⟨pb, k, none⟩ = some (.int .i64 (h k)) := by
    have hlt7 : k = 0 ∨ k = 1 ∨ k = 2 ∨ k = 3 ∨ k = 4 ∨ k = 5 ∨ k = 6 := by omega
    rcases hlt7 with rfl | rfl | rfl | rfl | rfl | rfl | rfl <;> exact HK2.out.cell _
  obtain ⟨mb, hmb⟩ : ∃ mb, memB D d = mb := ⟨_, rfl⟩
  rw [hmb] at HV HSE
  rw [hk] at HWD
  have C7 : w2.cell? ⟨pb, 7, none⟩ = some (.slice A D.length c) := HK2.out.cell 7
  clear hs hb2 hw2 hpb hmb hk hd hp
  go_enter Tryz.func95, Tryz.ntmps95
  go_upto_region 1 with fail
  rw [HE.out.1, HE.out.2]
  clear HE
  go_wp2_with fail
  refine HSE.out.mono ?_
  rintro e wz ⟨i, rfl, hwz⟩
  subst hwz
  clear HSE
  cases mb with
  | true =>
    go_wp2
    go_ret
    exact ⟨by rw [HV.out]; rfl, HB2.out⟩
  | false =>
    have hk7' : (k : Int) < 7 := by omega
    go_wp2_with fail
    refine HWD.out.mono ?_
    rintro e wz ⟨rfl, hwz⟩
    subst hwz
    go_wp2
    go_ret
    exact ⟨by rw [HV.out]; rfl, HB2.out⟩
end Go.Proofs.YtlgoaohklggcdaaGreatDoor
