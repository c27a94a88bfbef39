import Derived.Test.YtlgoaohklggcdaaGreatDoorAbd
import Derived.BigQuiet
/- The document's Check and On of a week. -/
namespace Go.Proofs.YtlgoaohklggcdaaGreatDoor
open Go.RowKit Go.Sort

theorem r4d_In (d : Int) (w : World) : Calls Tryz.prog 28 #[.int .i64 d] w fun e w' => e = .returned (.bool (decide (-25567 ≤ d ∧ d ≤ 84005))) ∧ w = w' := by
  by_cases h1 : -25567 ≤ d
  · by_cases h2 : d ≤ 84005
    · have d1 : decide ((-25567 : Int) ≤ d) = true := decide_eq_true h1
      have d2 : decide (d ≤ (84005 : Int)) = true := decide_eq_true h2
      rw [decide_eq_true (And.intro h1 h2)]
      go_enter Tryz.func28, Tryz.ntmps28
      go_wp2
      go_ret
      exact ⟨rfl, rfl⟩
    · have d1 : decide ((-25567 : Int) ≤ d) = true := decide_eq_true h1
      have d2 : decide (d ≤ (84005 : Int)) = false := decide_eq_false h2
      rw [decide_eq_false (fun h => h2 h.2)]
      go_enter Tryz.func28, Tryz.ntmps28
      go_wp2
      go_ret
      exact ⟨rfl, rfl⟩
  · have d1 : decide ((-25567 : Int) ≤ d) = false := decide_eq_false h1
    rw [decide_eq_false (fun h => h1 h.1)]
    go_enter Tryz.func28, Tryz.ntmps28
    go_wp2
    go_ret
    exact ⟨rfl, rfl⟩
theorem r4d_Weekday (d : Int) (w : World) (h1 : -25567 ≤ d) (h2 : d ≤ 84005) : Calls Tryz.prog 123 #[.int .i64 d] w fun e w' => e = .returned (.int .i64 ((d + 25567) % 7)) ∧ w' = w := by
  go_enter Tryz.func123, Tryz.ntmps123
  go_wp2
  go_ret
  exact ⟨ret_i (by omega), rfl⟩
def onR (h : Nat → Int) (D : List Int) (d : Int) : Int := if calB d = true then onV h D d else 0
theorem cal_dec (d : Int) : decide (-25567 ≤ d ∧ d ≤ 84005) = calB d := by
  unfold calB
  rw [Bool.decide_and]
def wkTo (h : Nat → Int) (k : Nat) : Bool := (List.range k).all fun i => decide (0 ≤ h i ∧ h i ≤ 1440)
theorem wkTo_succ (h : Nat → Int) (k : Nat) : wkTo h (k + 1) = (wkTo h k && decide (0 ≤ h k ∧ h k ≤ 1440)) := by
  simp [wkTo, List.range_succ]
theorem wkTo_no {h : Nat → Int} {k : Nat} (hk : k < 7) (hb : ¬ (0 ≤ h k ∧ h k ≤ 1440)) : rightB h = false := by
  rw [← Bool.not_eq_true]
  intro e
  unfold rightB at e
  rw [List.all_eq_true] at e
  exact hb (of_decide_eq_true (e k (List.mem_range.2 hk)))
theorem bk7 {T : TypeId} {sb : Nat} {h : Nat → Int} {w : World} (hk : Bk sb T #[.int .i64 (h 0), .int .i64 (h 1), .int .i64 (h 2), .int .i64 (h 3), .int .i64 (h 4), .int .i64 (h 5), .int .i64 (h 6)] w) {k : Nat} (h7 : k < 7) : w.cell? ⟨sb, k, none⟩ = some (.int .i64 (h k)) := by
  have hlt7 : k = 0 ∨ k = 1 ∨ k = 2 ∨ k = 3 ∨ k = 4 ∨ k = 5 ∨ k = 6 := by omega
  rcases hlt7 with rfl | rfl | rfl | rfl | rfl | rfl | rfl <;> exact hk.cell _
set_option maxHeartbeats 4000000 in
set_option maxRecDepth 100000 in
theorem r7_Check (h : Nat → Int) (D : List Int) (A : Option Addr) (c : Nat) (w : World) (hn : D.length ≤ 9223372036854775807) (hs : Sl encDd 1 w w.heap.size A D) :
    Calls Tryz.prog 75 #[.agg #[.int .i64 (h 0), .int .i64 (h 1), .int .i64 (h 2), .int .i64 (h 3), .int .i64 (h 4), .int .i64 (h 5), .int .i64 (h 6)], .slice A D.length c] w fun e w' => e = .returned (.int .i64 (chkP h D)) ∧ Below w.heap.size w w' := by
  obtain ⟨sb, hsb⟩ : ∃ z, w.heap.size = z := ⟨_, rfl⟩
  obtain ⟨w2, hw2⟩ : ∃ z, w.alloc (.cells #[.int .i64 (h 0), .int .i64 (h 1), .int .i64 (h 2), .int .i64 (h 3), .int .i64 (h 4), .int .i64 (h 5), .int .i64 (h 6)] 47) = z := ⟨_, rfl⟩
  have hb2 : Below w.heap.size w w2 := by rw [← hw2]; exact bAlloc _ _
  have HB2 := Lib.hid hb2
  have HK2 : Hid (Bk sb 47 #[.int .i64 (h 0), .int .i64 (h 1), .int .i64 (h 2), .int .i64 (h 3), .int .i64 (h 4), .int .i64 (h 5), .int .i64 (h 6)] w2) := Lib.hid (by rw [← hw2, ← hsb]; exact Bk.new _ _ _)
  have HS2 := Lib.hid (sl_bel hs hb2)
  have HE := Lib.hid (And.intro hsb hw2)
  have HCH : Hid (chkP h D = if rightB h = false then 2 else if 4096 < D.length then 5 else frE none D) := Lib.hid rfl
  obtain ⟨ce, hce⟩ : ∃ z, chkP h D = z := ⟨_, rfl⟩
  rw [hce] at HCH ⊢
  clear hs hb2 hw2 hsb hce
  go_enter Tryz.func75, Tryz.ntmps75
  go_upto_region 1 with fail
  rw [HE.out.1, HE.out.2]
  clear HE
  go_wp2
  go_loopw [5] (fun kv wr => ∃ k : Nat, k ≤ 7 ∧ kv = .int .i64 k ∧ Hid (wkTo h k = true) ∧ w2 = wr) (fun kv _ => 7 - (intOf kv).toNat)
  case atStart => exact ⟨0, by omega, rfl, Lib.hid rfl, by first | trivial | rfl⟩
  case round =>
    obtain ⟨k, hk, rfl, HK, hww⟩ := hrel
    subst hww
    by_cases hlt : k < 7
    · have C0 := bk7 HK2.out hlt
      have hlt2 : (k : Int) < 7 := by omega
      obtain ⟨n, hn2⟩ : ∃ n, h k = n := ⟨_, rfl⟩
      rw [hn2] at C0
      have HN := Lib.hid hn2
      clear hn2
      by_cases hb : 0 ≤ n ∧ n ≤ 1440
      · have HK3 : Hid (wkTo h (k + 1) = true) := Lib.hid (by rw [wkTo_succ, HK.out, HN.out, decide_eq_true hb]; rfl)
        have hb3 : ¬ n < 0 := by omega
        have hb4 : ¬ (1440 : Int) < n := by omega
        clear hb
        go_wp2
        exact ⟨⟨k + 1, by omega, by go_num, HK3, by first | trivial | rfl⟩, by simp [intOf]; omega⟩
      · have HF : Hid (ce = 2) := Lib.hid (by rw [HCH.out, if_pos (wkTo_no hlt (by rw [HN.out]; exact hb))])
        have hb2 : n < 0 ∨ (¬ n < 0 ∧ (1440 : Int) < n) := by omega
        clear hb hlt
        rcases hb2 with h1 | ⟨h1, h2⟩
        · go_wp2
          go_ret
          exact ⟨by rw [HF.out]; rfl, HB2.out⟩
        · go_wp2
          go_ret
          exact ⟨by rw [HF.out]; rfl, HB2.out⟩
    · obtain rfl : k = 7 := by omega
      have HR : Hid (rightB h = true) := Lib.hid HK.out
      clear hlt
      by_cases h4 : (4096 : Int) < (D.length : Int)
      · have HV : Hid (ce = 5) := Lib.hid (by rw [HCH.out, if_neg (by rw [HR.out]; simp), if_pos (by omega)])
        go_wp2
        go_ret
        exact ⟨by rw [HV.out]; rfl, HB2.out⟩
      have HV : Hid (ce = frE none D) := Lib.hid (by rw [HCH.out, if_neg (by rw [HR.out]; simp), if_neg (by omega)])
      clear HCH HR HK
      go_wp2
      go_loopw [6] (fun kv wr => ∃ k : Nat, k ≤ D.length ∧ kv = .int .i64 k ∧ Hid (frTo D k) ∧ Hid (Below w2.heap.size w2 wr)) (fun kv _ => D.length - (intOf kv).toNat)
      case atStart => exact ⟨0, Nat.zero_le _, rfl, Lib.hid (frTo_zero D), Lib.hid (Below.refl _ _)⟩
      case round =>
        obtain ⟨k, hk, rfl, HF, HB⟩ := hrel
        by_cases hlt : k < D.length
        · obtain ⟨d, hx⟩ : ∃ x, D[k]? = some x := ⟨_, List.getElem?_eq_getElem hlt⟩
          obtain ⟨g, o, rfl, _, hat⟩ := HS2.out (by intro h; simp [h] at hx)
          have C0 : wr.cell? ⟨g, o + k, none⟩ = some (.int .i64 d) := bCell HB.out (by
            have := hat k _ hx 0 _ rfl
            simpa using this)
          have HIN := Lib.hid (r4d_In d wr)
          have HX := Lib.hid hx
          have hlt2 : (k : Int) < (D.length : Int) := by omega
          have HAT := Lib.hid hat
          clear hx hat
          obtain ⟨ic, hic⟩ : ∃ ic, decide (-25567 ≤ d ∧ d ≤ 84005) = ic := ⟨_, rfl⟩
          rw [hic] at HIN
          have HIC := Lib.hid hic
          clear hic
          go_wp2_with fail
          refine HIN.out.mono ?_
          rintro e wz ⟨rfl, hwz⟩
          subst hwz
          clear HIN
          cases ic with
          | false =>
            have HV2 : Hid (ce = 15 ∧ Below w.heap.size w wr) := Lib.hid ⟨by rw [HV.out]; exact frTo_15 HF.out HX.out (of_decide_eq_false HIC.out), bTrans HB2.out HB.out⟩
            go_wp2
            go_ret
            exact ⟨by rw [HV2.out.1]; rfl, HV2.out.2⟩
          | true =>
            have HCC : Hid (-25567 ≤ d ∧ d ≤ 84005) := Lib.hid (of_decide_eq_true HIC.out)
            by_cases hk0 : k = 0
            · subst hk0
              have HF2 := Lib.hid (frTo_succ HF.out HX.out HCC.out (.inl rfl))
              go_upto_region 13 with fail
              go_quiet (fail)
              rename_i nq
              have HBQ : Hid (Below w2.heap.size w2 (wr.drewN nq)) := Lib.hid (HB.out.trans ((bDrewN wr nq).mono HB.out.size))
              clear C0
              go_wp2
              exact ⟨⟨0 + 1, by omega, by go_num, HF2, HBQ⟩, by simp [intOf]; omega⟩
            · obtain ⟨j, rfl⟩ : ∃ j, k = j + 1 := ⟨k - 1, by omega⟩
              obtain ⟨q, hq⟩ : ∃ q, D[j]? = some q := ⟨_, List.getElem?_eq_getElem (by omega)⟩
              have C1 : wr.cell? ⟨g, o + j, none⟩ = some (.int .i64 q) := bCell HB.out (by
                have := HAT.out j _ hq 0 _ rfl
                simpa using this)
              have HQ := Lib.hid hq
              have hj0 : (0 : Int) < ((j + 1 : Nat) : Int) := by omega
              have hjl : (j : Int) < (D.length : Int) := by omega
              clear hq hk0
              go_upto_region 13 with fail
              by_cases hqd : d ≤ q
              · have HV2 : Hid (ce = 8) := Lib.hid (by rw [HV.out]; exact frTo_8 HF.out HX.out HCC.out (by omega) HQ.out hqd)
                go_quiet (fail)
                rename_i nq
                have HBQ : Hid (Below w.heap.size w (wr.drewN nq)) := Lib.hid (bTrans HB2.out (HB.out.trans ((bDrewN wr nq).mono HB.out.size)))
                clear C0 C1
                go_wp2
                go_ret
                exact ⟨by rw [HV2.out]; rfl, HBQ.out⟩
              · have HF2 := Lib.hid (frTo_succ HF.out HX.out HCC.out (.inr ⟨q, HQ.out, by omega⟩))
                go_quiet (fail)
                rename_i nq
                have HBQ : Hid (Below w2.heap.size w2 (wr.drewN nq)) := Lib.hid (HB.out.trans ((bDrewN wr nq).mono HB.out.size))
                clear C0 C1
                go_wp2
                exact ⟨⟨j + 1 + 1, by omega, by go_num, HF2, HBQ⟩, by simp [intOf]; omega⟩
        · obtain rfl : k = D.length := by omega
          have HV2 : Hid (ce = 0 ∧ Below w.heap.size w wr) := Lib.hid ⟨by rw [HV.out]; exact frTo_end HF.out, bTrans HB2.out HB.out⟩
          clear hlt
          go_wp2
          go_ret
          exact ⟨by rw [HV2.out.1]; rfl, HV2.out.2⟩
set_option maxHeartbeats 4000000 in
set_option maxRecDepth 100000 in
theorem r7_On (h : Nat → Int) (D : List Int) (A : Option Addr) (c : Nat) (d : Int) (w : World) (hn : D.length ≤ 9223372036854775807) (hs : Sl encDd 1 w w.heap.size A D) :
    Calls Tryz.prog 74 #[.agg #[.int .i64 (h 0), .int .i64 (h 1), .int .i64 (h 2), .int .i64 (h 3), .int .i64 (h 4), .int .i64 (h 5), .int .i64 (h 6)], .slice A D.length c, .int .i64 d] w fun e w' => e = .returned (.int .i64 (onR h D d)) ∧ Below w.heap.size w w' := by
  obtain ⟨sb, hsb⟩ : ∃ z, w.heap.size = z := ⟨_, rfl⟩
  obtain ⟨w2, hw2⟩ : ∃ z, w.alloc (.cells #[.int .i64 (h 0), .int .i64 (h 1), .int .i64 (h 2), .int .i64 (h 3), .int .i64 (h 4), .int .i64 (h 5), .int .i64 (h 6)] 47) = z := ⟨_, rfl⟩
  have hb2 : Below w.heap.size w w2 := by rw [← hw2]; exact bAlloc _ _
  have HB2 := Lib.hid hb2
  have HK2 : Hid (Bk sb 47 #[.int .i64 (h 0), .int .i64 (h 1), .int .i64 (h 2), .int .i64 (h 3), .int .i64 (h 4), .int .i64 (h 5), .int .i64 (h 6)] w2) := Lib.hid (by rw [← hw2, ← hsb]; exact Bk.new _ _ _)
  have HS2 := Lib.hid (sl_bel hs hb2)
  have HE := Lib.hid (And.intro hsb hw2)
  have HIN : Hid (Calls Tryz.prog 28 #[.int .i64 d] w2 fun e w' => e = .returned (.bool (calB d)) ∧ w2 = w') := Lib.hid (by
    have h := r4d_In d w2
    rwa [cal_dec] at h)
  have HV : Hid (onR h D d = if calB d = true then (if memB D d = true then 0 else h ((d + 25567) % 7).toNat) else 0) := Lib.hid rfl
  obtain ⟨rv, hrv⟩ : ∃ rv, onR h D d = rv := ⟨_, rfl⟩
  rw [hrv] at HV ⊢
  obtain ⟨ic, hic⟩ : ∃ ic, calB d = ic := ⟨_, rfl⟩
  rw [hic] at HIN HV
  have HIC := Lib.hid hic
  clear hs hb2 hw2 hsb hrv hic
  go_enter Tryz.func74, Tryz.ntmps74
  go_upto_region 1 with fail
  rw [HE.out.1, HE.out.2]
  clear HE
  go_wp2_with fail
  refine HIN.out.mono ?_
  rintro e wz ⟨rfl, hwz⟩
  subst hwz
  clear HIN
  cases ic with
  | false =>
    have HV2 : Hid (rv = 0) := Lib.hid HV.out
    go_wp2
    go_ret
    exact ⟨by rw [HV2.out]; rfl, HB2.out⟩
  | true =>
    have HCC : Hid (-25567 ≤ d ∧ d ≤ 84005) := Lib.hid (by
      have h := HIC.out
      unfold calB at h
      simp at h
      exact h)
    have HV3 : Hid (rv = if memB D d = true then 0 else h ((d + 25567) % 7).toNat) := Lib.hid HV.out
    clear HV
    go_wp2
    go_loopw [7] (fun kv wr => ∃ k : Nat, k ≤ D.length ∧ kv = .int .i64 k ∧ Hid (d ∉ D.take k) ∧ w2 = wr) (fun kv _ => D.length - (intOf kv).toNat)
    case atStart => exact ⟨0, Nat.zero_le _, rfl, Lib.hid (by simp), by first | trivial | rfl⟩
    case round =>
      obtain ⟨k, hk, rfl, HN, hww⟩ := hrel
      subst hww
      by_cases hlt : k < D.length
      · obtain ⟨x, hx⟩ : ∃ x, D[k]? = some x := ⟨_, List.getElem?_eq_getElem hlt⟩
        obtain ⟨g, o, rfl, _, hat⟩ := HS2.out (by intro h; simp [h] at hx)
        have C0 : w2.cell? ⟨g, o + k, none⟩ = some (.int .i64 x) := by
          have := hat k _ hx 0 _ rfl
          simpa using this
        have hlt2 : (k : Int) < (D.length : Int) := by omega
        by_cases hxd : x = d
        · have HV2 : Hid (rv = 0) := Lib.hid (by rw [HV3.out, if_pos (show memB D d = true from decide_eq_true (by rw [← hxd]; exact List.mem_of_getElem? hx))])
          subst hxd
          clear hx hat hlt
          go_wp2
          go_ret
          exact ⟨by rw [HV2.out]; rfl, HB2.out⟩
        · have HN2 : Hid (d ∉ D.take (k + 1)) := Lib.hid (by
            rw [List.take_add_one, hx, Option.toList_some, List.mem_append, not_or]
            refine ⟨HN.out, fun h => hxd ?_⟩
            rw [List.mem_singleton] at h
            exact h.symm)
          have hxq : (x == d) = false := beq_eq_false_iff_ne.2 hxd
          clear hx hat hxd
          go_wp2
          exact ⟨⟨k + 1, by omega, by go_num, HN2, by first | trivial | rfl⟩, by simp [intOf]; omega⟩
      · obtain rfl : k = D.length := by omega
        have HWD := Lib.hid (r4d_Weekday d w2 HCC.out.1 HCC.out.2)
        obtain ⟨j, hj⟩ : ∃ j : Nat, (d + 25567) % 7 = (j : Int) := ⟨((d + 25567) % 7).toNat, by omega⟩
        have hj7 : j < 7 := by omega
        have HV2 : Hid (rv = h j) := Lib.hid (by
          rw [HV3.out, if_neg, hj]
          · rfl
          · intro e
            have := of_decide_eq_true (show decide (d ∈ D) = true from e)
            have h2 := HN.out
            rw [List.take_length] at h2
            exact h2 this)
        have C0 := bk7 HK2.out hj7
        have hj72 : (j : Int) < 7 := by omega
        rw [hj] at HWD
        clear hlt hj
        go_wp2_with fail
        refine HWD.out.mono ?_
        rintro e wz ⟨rfl, hwz⟩
        subst hwz
        go_wp2
        go_ret
        exact ⟨by rw [HV2.out]; rfl, HB2.out⟩
end Go.Proofs.YtlgoaohklggcdaaGreatDoor
