/- Merged from: Abe Abf Abg. -/
import Derived.Test.YtlgoaohklggcdaaGreatDoorAbw
import Derived.BigQuiet
namespace Go.Proofs.YtlgoaohklggcdaaGreatDoor
open Go.RowKit Go.Sort

theorem r4d_In (d : Int) (w : World) : Calls Tryz.prog 28 #[.int .i64 d] w fun e w' => e = .returned (.bool (decide (-25567 ≤ d ∧ d ≤ 84005))) ∧ w = w' := by
  by_cases h1 : -25567 ≤ d
  · by_cases h2 : d ≤ 84005
    · have d1 : decide ((-25567 : Int) ≤ d) = true := decide_eq_true h1
      have d2 : decide (d ≤ (84005 : Int)) = true := decide_eq_true h2
      rw [decide_eq_true (And.intro h1 h2)]
      go_enter Tryz.func28, Tryz.ntmps28
      go_wp2
      go_ret
      exact ⟨rfl, rfl⟩
    · have d1 : decide ((-25567 : Int) ≤ d) = true := decide_eq_true h1
      have d2 : decide (d ≤ (84005 : Int)) = false := decide_eq_false h2
      rw [decide_eq_false (fun h => h2 h.2)]
      go_enter Tryz.func28, Tryz.ntmps28
      go_wp2
      go_ret
      exact ⟨rfl, rfl⟩
  · have d1 : decide ((-25567 : Int) ≤ d) = false := decide_eq_false h1
    rw [decide_eq_false (fun h => h1 h.1)]
    go_enter Tryz.func28, Tryz.ntmps28
    go_wp2
    go_ret
    exact ⟨rfl, rfl⟩
theorem r4d_Weekday (d : Int) (w : World) (h1 : -25567 ≤ d) (h2 : d ≤ 84005) : Calls Tryz.prog 123 #[.int .i64 d] w fun e w' => e = .returned (.int .i64 ((d + 25567) % 7)) ∧ w' = w := by
  go_enter Tryz.func123, Tryz.ntmps123
  go_wp2
  go_ret
  exact ⟨ret_i (by omega), rfl⟩
def onR (h : Nat → Int) (D : List Int) (d : Int) : Int := if calB d = true then onV h D d else 0
theorem cal_dec (d : Int) : decide (-25567 ≤ d ∧ d ≤ 84005) = calB d := by
  unfold calB
  rw [Bool.decide_and]
def wkTo (h : Nat → Int) (k : Nat) : Bool := (List.range k).all fun i => decide (0 ≤ h i ∧ h i ≤ 1440)
theorem wkTo_succ (h : Nat → Int) (k : Nat) : wkTo h (k + 1) = (wkTo h k && decide (0 ≤ h k ∧ h k ≤ 1440)) := by
  simp [wkTo, List.range_succ]
theorem wkTo_no {h : Nat → Int} {k : Nat} (hk : k < 7) (hb : ¬ (0 ≤ h k ∧ h k ≤ 1440)) : rightB h = false := by
  rw [← Bool.not_eq_true]
  intro e
  unfold rightB at e
  rw [List.all_eq_true] at e
  exact hb (of_decide_eq_true (e k (List.mem_range.2 hk)))
theorem bk7 {T : TypeId} {sb : Nat} {h : Nat → Int} {w : World} (hk : Bk sb T #[.int .i64 (h 0), .int .i64 (h 1), .int .i64 (h 2), .int .i64 (h 3), .int .i64 (h 4), .int .i64 (h 5), .int .i64 (h 6)] w) {k : Nat} (h7 : k < 7) : w.cell? ⟨sb, k, none⟩ = some (.int .i64 (h k)) := by
  have hlt7 : k = 0 ∨ k = 1 ∨ k = 2 ∨ k = 3 ∨ k = 4 ∨ k = 5 ∨ k = 6 := by omega
  rcases hlt7 with rfl | rfl | rfl | rfl | rfl | rfl | rfl <;> exact hk.cell _
set_option maxHeartbeats 4000000 in
set_option maxRecDepth 100000 in
theorem r7_Check (h : Nat → Int) (D : List Int) (A : Option Addr) (c : Nat) (w : World) (hn : D.length ≤ 9223372036854775807) (hs : Sl encDd 1 w w.heap.size A D) :
    Calls Tryz.prog 75 #[.agg #[.int .i64 (h 0), .int .i64 (h 1), .int .i64 (h 2), .int .i64 (h 3), .int .i64 (h 4), .int .i64 (h 5), .int .i64 (h 6)], .slice A D.length c] w fun e w' => e = .returned (.int .i64 (chkP h D)) ∧ Below w.heap.size w w' := by
  obtain ⟨sb, hsb⟩ : ∃ z, w.heap.size = z := ⟨_, rfl⟩
  obtain ⟨w2, hw2⟩ : ∃ z, w.alloc (.cells #[.int .i64 (h 0), .int .i64 (h 1), .int .i64 (h 2), .int .i64 (h 3), .int .i64 (h 4), .int .i64 (h 5), .int .i64 (h 6)] 47) = z := ⟨_, rfl⟩
  have hb2 : Below w.heap.size w w2 := by rw [← hw2]; exact bAlloc _ _
  have HB2 := Lib.hid hb2
  have HK2 : Hid (Bk sb 47 #[.int .i64 (h 0), .int .i64 (h 1), .int .i64 (h 2), .int .i64 (h 3), .int .i64 (h 4), .int .i64 (h 5), .int .i64 (h 6)] w2) := Lib.hid (by rw [← hw2, ← hsb]; exact Bk.new _ _ _)
  have HS2 := Lib.hid (sl_bel hs hb2)
  have HE := Lib.hid (And.intro hsb hw2)
  have HCH : Hid (chkP h D = if rightB h = false then 2 else if 4096 < D.length then 5 else frE none D) := Lib.hid rfl
  obtain ⟨ce, hce⟩ : ∃ z, chkP h D = z := ⟨_, rfl⟩
  rw [hce] at HCH ⊢
  clear hs hb2 hw2 hsb hce
  go_enter Tryz.func75, Tryz.ntmps75
  go_upto_region 1 with fail
  rw [HE.out.1, HE.out.2]
  clear HE
  go_wp2
  go_loopw [5] (fun kv wr => ∃ k : Nat, k ≤ 7 ∧ kv = .int .i64 k ∧ Hid (wkTo h k = true) ∧ w2 = wr) (fun kv _ => 7 - (intOf kv).toNat)
  case atStart => exact ⟨0, by omega, rfl, Lib.hid rfl, by first | trivial | rfl⟩
  case round =>
    obtain ⟨k, hk, rfl, HK, hww⟩ := hrel
    subst hww
    by_cases hlt : k < 7
    · have C0 := bk7 HK2.out hlt
      have hlt2 : (k : Int) < 7 := by omega
      obtain ⟨n, hn2⟩ : ∃ n, h k = n := ⟨_, rfl⟩
      rw [hn2] at C0
      have HN := Lib.hid hn2
      clear hn2
      by_cases hb : 0 ≤ n ∧ n ≤ 1440
      · have HK3 : Hid (wkTo h (k + 1) = true) := Lib.hid (by rw [wkTo_succ, HK.out, HN.out, decide_eq_true hb]; rfl)
        have hb3 : ¬ n < 0 := by omega
        have hb4 : ¬ (1440 : Int) < n := by omega
        clear hb
        go_wp2
        exact ⟨⟨k + 1, by omega, by go_num, HK3, by first | trivial | rfl⟩, by simp [intOf]; omega⟩
      · have HF : Hid (ce = 2) := Lib.hid (by rw [HCH.out, if_pos (wkTo_no hlt (by rw [HN.out]; exact hb))])
        have hb2 : n < 0 ∨ (¬ n < 0 ∧ (1440 : Int) < n) := by omega
        clear hb hlt
        rcases hb2 with h1 | ⟨h1, h2⟩
        · go_wp2
          go_ret
          exact ⟨by rw [HF.out]; rfl, HB2.out⟩
        · go_wp2
          go_ret
          exact ⟨by rw [HF.out]; rfl, HB2.out⟩
    · obtain rfl : k = 7 := by omega
      have HR : Hid (rightB h = true) := Lib.hid HK.out
      clear hlt
      by_cases h4 : (4096 : Int) < (D.length : Int)
      · have HV : Hid (ce = 5) := Lib.hid (by rw [HCH.out, if_neg (by rw [HR.out]; simp), if_pos (by omega)])
        go_wp2
        go_ret
        exact ⟨by rw [HV.out]; rfl, HB2.out⟩
      have HV : Hid (ce = frE none D) := Lib.hid (by rw [HCH.out, if_neg (by rw [HR.out]; simp), if_neg (by omega)])
      clear HCH HR HK
      go_wp2
      go_loopw [6] (fun kv wr => ∃ k : Nat, k ≤ D.length ∧ kv = .int .i64 k ∧ Hid (frTo D k) ∧ Hid (Below w2.heap.size w2 wr)) (fun kv _ => D.length - (intOf kv).toNat)
      case atStart => exact ⟨0, Nat.zero_le _, rfl, Lib.hid (frTo_zero D), Lib.hid (Below.refl _ _)⟩
      case round =>
        obtain ⟨k, hk, rfl, HF, HB⟩ := hrel
        by_cases hlt : k < D.length
        · obtain ⟨d, hx⟩ : ∃ x, D[k]? = some x := ⟨_, List.getElem?_eq_getElem hlt⟩
          obtain ⟨g, o, rfl, _, hat⟩ := HS2.out (by intro h; simp [h] at hx)
          have C0 : wr.cell? ⟨g, o + k, none⟩ = some (.int .i64 d) := bCell HB.out (by
            have := hat k _ hx 0 _ rfl
            simpa using this)
          have HIN := Lib.hid (r4d_In d wr)
          have HX := Lib.hid hx
          have hlt2 : (k : Int) < (D.length : Int) := by omega
          have HAT := Lib.hid hat
          clear hx hat
          obtain ⟨ic, hic⟩ : ∃ ic, decide (-25567 ≤ d ∧ d ≤ 84005) = ic := ⟨_, rfl⟩
          rw [hic] at HIN
          have HIC := Lib.hid hic
          clear hic
          go_wp2_with fail
          refine HIN.out.mono ?_
          rintro e wz ⟨rfl, hwz⟩
          subst hwz
          clear HIN
          cases ic with
          | false =>
            have HV2 : Hid (ce = 15 ∧ Below w.heap.size w wr) := Lib.hid ⟨by rw [HV.out]; exact frTo_15 HF.out HX.out (of_decide_eq_false HIC.out), bTrans HB2.out HB.out⟩
            go_wp2
            go_ret
            exact ⟨by rw [HV2.out.1]; rfl, HV2.out.2⟩
          | true =>
            have HCC : Hid (-25567 ≤ d ∧ d ≤ 84005) := Lib.hid (of_decide_eq_true HIC.out)
            by_cases hk0 : k = 0
            · subst hk0
              have HF2 := Lib.hid (frTo_succ HF.out HX.out HCC.out (.inl rfl))
              go_upto_region 13 with fail
              go_quiet (fail)
              rename_i nq
              have HBQ : Hid (Below w2.heap.size w2 (wr.drewN nq)) := Lib.hid (HB.out.trans ((bDrewN wr nq).mono HB.out.size))
              clear C0
              go_wp2
              exact ⟨⟨0 + 1, by omega, by go_num, HF2, HBQ⟩, by simp [intOf]; omega⟩
            · obtain ⟨j, rfl⟩ : ∃ j, k = j + 1 := ⟨k - 1, by omega⟩
              obtain ⟨q, hq⟩ : ∃ q, D[j]? = some q := ⟨_, List.getElem?_eq_getElem (by omega)⟩
              have C1 : wr.cell? ⟨g, o + j, none⟩ = some (.int .i64 q) := bCell HB.out (by
                have := HAT.out j _ hq 0 _ rfl
                simpa using this)
              have HQ := Lib.hid hq
              have hj0 : (0 : Int) < ((j + 1 : Nat) : Int) := by omega
              have hjl : (j : Int) < (D.length : Int) := by omega
              clear hq hk0
              go_upto_region 13 with fail
              by_cases hqd : d ≤ q
              · have HV2 : Hid (ce = 8) := Lib.hid (by rw [HV.out]; exact frTo_8 HF.out HX.out HCC.out (by omega) HQ.out hqd)
                go_quiet (fail)
                rename_i nq
                have HBQ : Hid (Below w.heap.size w (wr.drewN nq)) := Lib.hid (bTrans HB2.out (HB.out.trans ((bDrewN wr nq).mono HB.out.size)))
                clear C0 C1
                go_wp2
                go_ret
                exact ⟨by rw [HV2.out]; rfl, HBQ.out⟩
              · have HF2 := Lib.hid (frTo_succ HF.out HX.out HCC.out (.inr ⟨q, HQ.out, by omega⟩))
                go_quiet (fail)
                rename_i nq
                have HBQ : Hid (Below w2.heap.size w2 (wr.drewN nq)) := Lib.hid (HB.out.trans ((bDrewN wr nq).mono HB.out.size))
                clear C0 C1
                go_wp2
                exact ⟨⟨j + 1 + 1, by omega, by go_num, HF2, HBQ⟩, by simp [intOf]; omega⟩
        · obtain rfl : k = D.length := by omega
          have HV2 : Hid (ce = 0 ∧ Below w.heap.size w wr) := Lib.hid ⟨by rw [HV.out]; exact frTo_end HF.out, bTrans HB2.out HB.out⟩
          clear hlt
          go_wp2
          go_ret
          exact ⟨by rw [HV2.out.1]; rfl, HV2.out.2⟩
set_option maxHeartbeats 4000000 in
set_option maxRecDepth 100000 in
theorem r7_On (h : Nat → Int) (D : List Int) (A : Option Addr) (c : Nat) (d : Int) (w : World) (hn : D.length ≤ 9223372036854775807) (hs : Sl encDd 1 w w.heap.size A D) :
    Calls Tryz.prog 74 #[.agg #[.int .i64 (h 0), .int .i64 (h 1), .int .i64 (h 2), .int .i64 (h 3), .int .i64 (h 4), .int .i64 (h 5), .int .i64 (h 6)], .slice A D.length c, .int .i64 d] w fun e w' => e = .returned (.int .i64 (onR h D d)) ∧ Below w.heap.size w w' := by
  obtain ⟨sb, hsb⟩ : ∃ z, w.heap.size = z := ⟨_, rfl⟩
  obtain ⟨w2, hw2⟩ : ∃ z, w.alloc (.cells #[.int .i64 (h 0), .int .i64 (h 1), .int .i64 (h 2), .int .i64 (h 3), .int .i64 (h 4), .int .i64 (h 5), .int .i64 (h 6)] 47) = z := ⟨_, rfl⟩
  have hb2 : Below w.heap.size w w2 := by rw [← hw2]; exact bAlloc _ _
  have HB2 := Lib.hid hb2
  have HK2 : Hid (Bk sb 47 #[.int .i64 (h 0), .int .i64 (h 1), .int .i64 (h 2), .int .i64 (h 3), .int .i64 (h 4), .int .i64 (h 5), .int .i64 (h 6)] w2) := Lib.hid (by rw [← hw2, ← hsb]; exact Bk.new _ _ _)
  have HS2 := Lib.hid (sl_bel hs hb2)
  have HE := Lib.hid (And.intro hsb hw2)
  have HIN : Hid (Calls Tryz.prog 28 #[.int .i64 d] w2 fun e w' => e = .returned (.bool (calB d)) ∧ w2 = w') := Lib.hid (by
    have h := r4d_In d w2
    rwa [cal_dec] at h)
  have HV : Hid (onR h D d = if calB d = true then (if memB D d = true then 0 else h ((d + 25567) % 7).toNat) else 0) := Lib.hid rfl
  obtain ⟨rv, hrv⟩ : ∃ rv, onR h D d = rv := ⟨_, rfl⟩
  rw [hrv] at HV ⊢
  obtain ⟨ic, hic⟩ : ∃ ic, calB d = ic := ⟨_, rfl⟩
  rw [hic] at HIN HV
  have HIC := Lib.hid hic
  clear hs hb2 hw2 hsb hrv hic
  go_enter Tryz.func74, Tryz.ntmps74
  go_upto_region 1 with fail
  rw [HE.out.1, HE.out.2]
  clear HE
  go_wp2_with fail
  refine HIN.out.mono ?_
  rintro e wz ⟨rfl, hwz⟩
  subst hwz
  clear HIN
  cases ic with
  | false =>
    have HV2 : Hid (rv = 0) := Lib.hid HV.out
    go_wp2
    go_ret
    exact ⟨by rw [HV2.out]; rfl, HB2.out⟩
  | true =>
    have HCC : Hid (-25567 ≤ d ∧ d ≤ 84005) := Lib.hid (by
      have h := HIC.out
      unfold calB at h
      simp at h
      exact h)
    have HV3 : Hid (rv = if memB D d = true then 0 else h ((d + 25567) % 7).toNat) := Lib.hid HV.out
    clear HV
    go_wp2
    go_loopw [7] (fun kv wr => ∃ k : Nat, k ≤ D.length ∧ kv = .int .i64 k ∧ Hid (d ∉ D.take k) ∧ w2 = wr) (fun kv _ => D.length - (intOf kv).toNat)
    case atStart => exact ⟨0, Nat.zero_le _, rfl, Lib.hid (by simp), by first | trivial | rfl⟩
    case round =>
      obtain ⟨k, hk, rfl, HN, hww⟩ := hrel
      subst hww
      by_cases hlt : k < D.length
      · obtain ⟨x, hx⟩ : ∃ x, D[k]? = some x := ⟨_, List.getElem?_eq_getElem hlt⟩
        obtain ⟨g, o, rfl, _, hat⟩ := HS2.out (by intro h; simp [h] at hx)
        have C0 : w2.cell? ⟨g, o + k, none⟩ = some (.int .i64 x) := by
          have := hat k _ hx 0 _ rfl
          simpa using this
        have hlt2 : (k : Int) < (D.length : Int) := by omega
        by_cases hxd : x = d
        · have HV2 : Hid (rv = 0) := Lib.hid (by rw [HV3.out, if_pos (show memB D d = true from decide_eq_true (by rw [← hxd]; exact List.mem_of_getElem? hx))])
          subst hxd
          clear hx hat hlt
          go_wp2
          go_ret
          exact ⟨by rw [HV2.out]; rfl, HB2.out⟩
        · have HN2 : Hid (d ∉ D.take (k + 1)) := Lib.hid (by
            rw [List.take_add_one, hx, Option.toList_some, List.mem_append, not_or]
            refine ⟨HN.out, fun h => hxd ?_⟩
            rw [List.mem_singleton] at h
            exact h.symm)
          have hxq : (x == d) = false := beq_eq_false_iff_ne.2 hxd
          clear hx hat hxd
          go_wp2
          exact ⟨⟨k + 1, by omega, by go_num, HN2, by first | trivial | rfl⟩, by simp [intOf]; omega⟩
      · obtain rfl : k = D.length := by omega
        have HWD := Lib.hid (r4d_Weekday d w2 HCC.out.1 HCC.out.2)
        obtain ⟨j, hj⟩ : ∃ j : Nat, (d + 25567) % 7 = (j : Int) := ⟨((d + 25567) % 7).toNat, by omega⟩
        have hj7 : j < 7 := by omega
        have HV2 : Hid (rv = h j) := Lib.hid (by
          rw [HV3.out, if_neg, hj]
          · rfl
          · intro e
            have := of_decide_eq_true (show decide (d ∈ D) = true from e)
            have h2 := HN.out
            rw [List.take_length] at h2
            exact h2 this)
        have C0 := bk7 HK2.out hj7
        have hj72 : (j : Int) < 7 := by omega
        rw [hj] at HWD
        clear hlt hj
        go_wp2_with fail
        refine HWD.out.mono ?_
        rintro e wz ⟨rfl, hwz⟩
        subst hwz
        go_wp2
        go_ret
        exact ⟨by rw [HV2.out]; rfl, HB2.out⟩
end Go.Proofs.YtlgoaohklggcdaaGreatDoor

namespace Go.Proofs.YtlgoaohklggcdaaGreatDoor
open Go.RowKit Go.Sort

def fSum (l : List Ab) (k : Int) (g : Int → Int) (d : Int) : Int := if awayB l k d = true then g d else 0
def awayOne (x : Ab) (k d : Int) : Bool := decide (x.ki = k) && decide (x.fr ≤ d) && decide (d < x.to)
theorem away_take {l : List Ab} {i : Nat} {x : Ab} (k d : Int) (h : l[i]? = some x) : awayB (l.take (i + 1)) k d = (awayB (l.take i) k d || awayOne x k d) := by
  unfold awayB awayOne
  rw [List.take_add_one, h, Option.toList_some, List.any_append]
  simp
/-- What a day brings. -/
theorem day_brings (h : Nat → Int) (D : List Int) (l : List Ab) (k d : Int) : fSum l k (gMin h D) d = (if (awayB l k d && decide (chkP h D = 0) && decide (0 < onR h D d)) = true then onR h D d else 0) ∧ fSum l k (gDay h D) d = (if (awayB l k d && decide (chkP h D = 0) && decide (0 < onR h D d)) = true then 1 else 0) := by
  unfold fSum gMin gDay inCal onR okP2
  cases ha : awayB l k d with
  | false => simp
  | true =>
    by_cases hc : chkP h D = 0
    · have hb := onV_bd (chkP_ok hc).1 D d
      cases hcal : calB d with
      | false => simp
      | true =>
        simp only [hc, decide_true, Bool.and_true, if_true, Bool.true_and]
        by_cases h0 : onV h D d = 0
        · unfold oneD; simp [h0]
        · have : 0 < onV h D d := by omega
          unfold oneD
          simp [h0, this]
    · simp [hc]
set_option maxHeartbeats 4000000 in
set_option maxRecDepth 100000 in
theorem r18_Sum (l : List Ab) (A : Option Addr) (c : Nat) (h : Nat → Int) (D : List Int) (AD : Option Addr) (cD : Nat) (F U k : Int) (w : World) (hl : l.length ≤ 100000) (hs : Sl encAb 5 w w.heap.size A l) (hn : D.length ≤ 9223372036854775807) (hsD : Sl encDd 1 w w.heap.size AD D) (hF : -4398046511104 ≤ F) (hU : U ≤ 4398046511104) (hUF : U - F ≤ 1000000) :
    Calls Tryz.prog 33 #[.slice A l.length c, .agg #[.int .i64 (h 0), .int .i64 (h 1), .int .i64 (h 2), .int .i64 (h 3), .int .i64 (h 4), .int .i64 (h 5), .int .i64 (h 6)], .slice AD D.length cD, .agg #[.int .i64 F, .int .i64 U], .int .i64 k] w fun e w' => e = .returned (.tuple #[.int .i64 (SU (fSum l k (gMin h D)) F U), .int .i64 (SU (fSum l k (gDay h D)) F U)]) ∧ Below w.heap.size w w' := by
  obtain ⟨pb, hpb⟩ : ∃ z, w.heap.size = z := ⟨_, rfl⟩
  obtain ⟨sb, hsb⟩ : ∃ z, pb + 1 = z := ⟨_, rfl⟩
  obtain ⟨w2, hw2⟩ : ∃ z, (w.alloc (.cells #[.int .i64 (h 0), .int .i64 (h 1), .int .i64 (h 2), .int .i64 (h 3), .int .i64 (h 4), .int .i64 (h 5), .int .i64 (h 6)] 47)).alloc (.cells #[.int .i64 F, .int .i64 U] 31) = z := ⟨_, rfl⟩
  obtain ⟨k1, k2, hb2⟩ := bkk2 w _ _ _ _ hpb hsb hw2
  have HB2 := Lib.hid hb2
  have HS2 := Lib.hid (sl_bel hs hb2)
  have HKC : Hid (∀ W, Below w2.heap.size w2 W → (W.cell? ⟨pb, 0, none⟩ = some (.int .i64 (h 0)) ∧ W.cell? ⟨pb, 1, none⟩ = some (.int .i64 (h 1)) ∧ W.cell? ⟨pb, 2, none⟩ = some (.int .i64 (h 2)) ∧ W.cell? ⟨pb, 3, none⟩ = some (.int .i64 (h 3)) ∧ W.cell? ⟨pb, 4, none⟩ = some (.int .i64 (h 4)) ∧ W.cell? ⟨pb, 5, none⟩ = some (.int .i64 (h 5)) ∧ W.cell? ⟨pb, 6, none⟩ = some (.int .i64 (h 6))) ∧ W.cell? ⟨sb, 0, none⟩ = some (.int .i64 F) ∧ W.cell? ⟨sb, 1, none⟩ = some (.int .i64 U)) := Lib.hid fun W hW =>
    ⟨⟨bCell hW (k1.cell 0), bCell hW (k1.cell 1), bCell hW (k1.cell 2), bCell hW (k1.cell 3), bCell hW (k1.cell 4), bCell hW (k1.cell 5), bCell hW (k1.cell 6)⟩, bCell hW (k2.cell 0), bCell hW (k2.cell 1)⟩
  have HON : Hid (∀ d W, Below w2.heap.size w2 W → Calls Tryz.prog 74 #[.agg #[.int .i64 (h 0), .int .i64 (h 1), .int .i64 (h 2), .int .i64 (h 3), .int .i64 (h 4), .int .i64 (h 5), .int .i64 (h 6)], .slice AD D.length cD, .int .i64 d] W fun e w' => e = .returned (.int .i64 (onR h D d)) ∧ Below W.heap.size W w') := Lib.hid fun d W hW => r7_On h D AD cD d W hn (sl_bel hsD (bTrans hb2 hW))
  have HCK : Hid (∀ W, Below w2.heap.size w2 W → Calls Tryz.prog 75 #[.agg #[.int .i64 (h 0), .int .i64 (h 1), .int .i64 (h 2), .int .i64 (h 3), .int .i64 (h 4), .int .i64 (h 5), .int .i64 (h 6)], .slice AD D.length cD] W fun e w' => e = .returned (.int .i64 (chkP h D)) ∧ Below W.heap.size W w') := Lib.hid fun W hW => r7_Check h D AD cD W hn (sl_bel hsD (bTrans hb2 hW))
  have HDB : Hid (∀ d, fSum l k (gMin h D) d = (if (awayB l k d && decide (chkP h D = 0) && decide (0 < onR h D d)) = true then onR h D d else 0) ∧ fSum l k (gDay h D) d = (if (awayB l k d && decide (chkP h D = 0) && decide (0 < onR h D d)) = true then 1 else 0)) := Lib.hid fun d => day_brings h D l k d
  have HBD : Hid (∀ d, (0 ≤ fSum l k (gMin h D) d ∧ fSum l k (gMin h D) d ≤ 1440) ∧ (0 ≤ fSum l k (gDay h D) d ∧ fSum l k (gDay h D) d ≤ 1)) := Lib.hid fun d => by
    have h1 : chkP h D = 0 → 0 ≤ onV h D d ∧ onV h D d ≤ 1440 := fun hc => onV_bd (chkP_ok hc).1 D d
    have h2 := oneD_bd (onV h D) d
    unfold fSum gMin gDay inCal okP2
    by_cases hc : chkP h D = 0
    · have := h1 hc
      constructor <;> (split <;> (try split) <;> omega)
    · simp [hc]
  obtain ⟨gM, hgM⟩ : ∃ g, fSum l k (gMin h D) = g := ⟨_, rfl⟩
  obtain ⟨gN, hgN⟩ : ∃ g, fSum l k (gDay h D) = g := ⟨_, rfl⟩
  obtain ⟨ce, hce⟩ : ∃ ce, chkP h D = ce := ⟨_, rfl⟩
  obtain ⟨on, hon⟩ : ∃ f, onR h D = f := ⟨_, rfl⟩
  have HE := Lib.hid (And.intro hpb (And.intro hsb hw2))
  rw [hgM] at HDB HBD ⊢
  rw [hgN] at HDB HBD ⊢
  rw [hce] at HDB HCK
  rw [hon] at HDB HON
  clear hs hb2 hw2 hpb hsb k1 k2 hgM hgN hce hon hsD hn
  obtain ⟨_, S0, S1⟩ := HKC.out _ (Below.refl _ _)
  go_enter Tryz.func33, Tryz.ntmps33
  go_upto_region 1 with fail
  rw [HE.out.1, HE.out.2.1, HE.out.2.2]
  clear HE
  go_wp2
  clear S0 S1
  go_loopw [12, 13, 14] (fun mv nv dv wr => ∃ j : Nat, (j = 0 ∨ F + j ≤ U) ∧ dv = .int .i64 (F + j) ∧ (∃ x y : Int, mv = .int .i64 x ∧ nv = .int .i64 y ∧ Hid (sumD gM F j = x ∧ sumD gN F j = y)) ∧ Hid (Below w2.heap.size w2 wr)) (fun _ _ dv _ => (U - intOf dv).toNat)
  case atStart => exact ⟨0, .inl rfl, by first | rfl | (congr 1; omega) | (simp; done), ⟨0, 0, rfl, rfl, Lib.hid ⟨rfl, rfl⟩⟩, Lib.hid (Below.refl _ _)⟩
  case round =>
    obtain ⟨j, hj, rfl, ⟨x, y, rfl, rfl, HXY⟩, HB⟩ := hrel
    obtain ⟨wo, hwo⟩ : ∃ x : World, x = wr := ⟨_, rfl⟩
    subst hwo
    obtain ⟨⟨K0, K1, K2, K3, K4, K5, K6⟩, S0, S1⟩ := HKC.out _ HB.out
    have hxy : (0 ≤ x ∧ x ≤ 1440 * j) ∧ (0 ≤ y ∧ y ≤ 1 * j) := by
      rw [← HXY.out.1, ← HXY.out.2]
      exact ⟨sumD_bd (fun d => (HBD.out d).1) F j, sumD_bd (fun d => (HBD.out d).2) F j⟩
    obtain ⟨d, hd⟩ : ∃ d, F + j = d := ⟨_, rfl⟩
    have HSX : Hid (sumD gM F (j + 1) = x + gM d ∧ sumD gN F (j + 1) = y + gN d) := Lib.hid ⟨by rw [sumD, HXY.out.1, hd], by rw [sumD, HXY.out.2, hd]⟩
    have HD1 : Hid (F + ((j + 1 : Nat) : Int) = d + 1) := Lib.hid (by omega)
    rw [hd]
    by_cases hlt : d < U
    · have hjb : (j : Int) ≤ 1000000 := by omega
      have hdb : -4398046511104 ≤ d ∧ d ≤ 4398046511104 := by omega
      have HDD := Lib.hid (HDB.out d)
      clear hd
      go_upto_region 7 with fail
      go_loopw [15, 16] (fun av iv wr => ∃ i : Nat, i ≤ l.length ∧ iv = .int .i64 i ∧ (∃ b : Bool, av = .bool b ∧ Hid (awayB (l.take i) k d = b)) ∧ wo = wr) (fun _ iv _ => l.length - (intOf iv).toNat)
      case atStart => exact ⟨0, Nat.zero_le _, rfl, ⟨false, rfl, Lib.hid rfl⟩, by first | trivial | rfl⟩
      case round =>
        obtain ⟨i, hi, rfl, ⟨b, rfl, HA⟩, hww⟩ := hrel
        subst hww
        by_cases hil : i < l.length
        · obtain ⟨⟨xf, xt, xk, xp, xn⟩, hx⟩ : ∃ x, l[i]? = some x := ⟨_, List.getElem?_eq_getElem hil⟩
          obtain ⟨g, o, rfl, _, hat⟩ := HS2.out (by intro h; simp [h] at hx)
          have C0 : wo.cell? ⟨g, o + i * 5, none⟩ = some (.int .i64 xf) := bCell HB.out (hat i _ hx 0 _ rfl)
          have C1 : wo.cell? ⟨g, o + i * 5 + 1, none⟩ = some (.int .i64 xt) := bCell HB.out (hat i _ hx 1 _ rfl)
          have C2 : wo.cell? ⟨g, o + i * 5 + 2, none⟩ = some (.int .i64 xk) := bCell HB.out (hat i _ hx 2 _ rfl)
          have HAN : Hid (awayB (l.take (i + 1)) k d = (b || (decide (xk = k) && decide (xf ≤ d) && decide (d < xt)))) := Lib.hid (by rw [away_take k d hx, HA.out]; rfl)
          have hil2 : (i : Int) < (l.length : Int) := by omega
          clear hx hat HA
          cases b with
          | true =>
            have HA2 : Hid (awayB (l.take (i + 1)) k d = true) := Lib.hid (by rw [HAN.out]; rfl)
            go_wp2
            exact ⟨⟨i + 1, by omega, by go_num, ⟨true, rfl, HA2⟩, by first | trivial | rfl⟩, by simp [intOf]; omega⟩
          | false =>
            by_cases hk1 : xk = k
            · by_cases hk2 : xf ≤ d
              · by_cases hk3 : d < xt
                · have HA2 : Hid (awayB (l.take (i + 1)) k d = true) := Lib.hid (by rw [HAN.out, decide_eq_true hk1, decide_eq_true hk2, decide_eq_true hk3]; rfl)
                  subst hk1
                  go_wp2
                  exact ⟨⟨i + 1, by omega, by go_num, ⟨true, by first | rfl | simp [hk3], HA2⟩, by first | trivial | rfl⟩, by simp [intOf]; omega⟩
                · have HA2 : Hid (awayB (l.take (i + 1)) k d = false) := Lib.hid (by rw [HAN.out, decide_eq_false hk3]; simp)
                  subst hk1
                  go_wp2
                  exact ⟨⟨i + 1, by omega, by go_num, ⟨false, by first | rfl | (simp; omega), HA2⟩, by first | trivial | rfl⟩, by simp [intOf]; omega⟩
              · have HA2 : Hid (awayB (l.take (i + 1)) k d = false) := Lib.hid (by rw [HAN.out, decide_eq_false hk2]; simp)
                subst hk1
                go_wp2
                exact ⟨⟨i + 1, by omega, by go_num, ⟨false, by first | rfl | (simp; omega), HA2⟩, by first | trivial | rfl⟩, by simp [intOf]; omega⟩
            · have HA2 : Hid (awayB (l.take (i + 1)) k d = false) := Lib.hid (by rw [HAN.out, decide_eq_false hk1]; rfl)
              have hkq : (xk == k) = false := beq_eq_false_iff_ne.2 hk1
              go_wp2
              exact ⟨⟨i + 1, by omega, by go_num, ⟨false, rfl, HA2⟩, by first | trivial | rfl⟩, by simp [intOf]; omega⟩
        · obtain rfl : i = l.length := by omega
          have HA2 : Hid (awayB l k d = b) := Lib.hid (by have h := HA.out; rwa [List.take_length] at h)
          rw [HA2.out] at HDD
          have HOD := Lib.hid (HON.out d _ HB.out)
          obtain ⟨m, hm⟩ : ∃ m, on d = m := ⟨_, rfl⟩
          rw [hm] at HOD HDD
          have hil2 : ¬ (l.length : Int) < (l.length : Int) := by omega
          clear hil HA hm
          have HG : Hid (0 ≤ gM d ∧ gM d ≤ 1440) := Lib.hid (HBD.out d).1
          go_wp2_with fail
          refine HOD.out.mono ?_
          rintro e wn ⟨rfl, hbn⟩
          have HBN : Hid (Below w2.heap.size w2 wn) := Lib.hid (bTrans HB.out hbn)
          clear hbn K0 K1 K2 K3 K4 K5 K6 S0 S1 HOD
          obtain ⟨⟨K0, K1, K2, K3, K4, K5, K6⟩, S0, S1⟩ := HKC.out _ HBN.out
          cases b with
          | false =>
            have HS3 : Hid (sumD gM F (j + 1) = x ∧ sumD gN F (j + 1) = y) := Lib.hid ⟨by rw [HSX.out.1, HDD.out.1]; simp, by rw [HSX.out.2, HDD.out.2]; simp⟩
            go_wp2
            exact ⟨⟨j + 1, .inr (by rw [HD1.out]; omega), by rw [HD1.out], ⟨x, y, rfl, rfl, HS3⟩, HBN⟩, by simp [intOf]; omega⟩
          | true =>
            have HCK2 := Lib.hid (HCK.out _ HBN.out)
            go_wp2_with fail
            refine HCK2.out.mono ?_
            rintro e wm ⟨rfl, hbm⟩
            have HBM : Hid (Below w2.heap.size w2 wm) := Lib.hid (bTrans HBN.out hbm)
            clear hbm K0 K1 K2 K3 K4 K5 K6 S0 S1 HCK2
            by_cases hc0 : ce = 0
            · by_cases hm0 : 0 < m
              · have HS3 : Hid (sumD gM F (j + 1) = x + m ∧ sumD gN F (j + 1) = y + 1) := Lib.hid ⟨by rw [HSX.out.1, HDD.out.1, decide_eq_true hc0, decide_eq_true hm0]; rfl, by rw [HSX.out.2, HDD.out.2, decide_eq_true hc0, decide_eq_true hm0]; rfl⟩
                have hmb : m ≤ 1440 := by
                  have h1 := HG.out.2
                  rw [HDD.out.1, decide_eq_true hc0, decide_eq_true hm0] at h1
                  simpa using h1
                subst hc0
                go_wp2
                exact ⟨⟨j + 1, .inr (by rw [HD1.out]; omega), by rw [HD1.out], ⟨x + m, y + 1, by go_num, by go_num, HS3⟩, HBM⟩, by simp [intOf]; omega⟩
              · have HS3 : Hid (sumD gM F (j + 1) = x ∧ sumD gN F (j + 1) = y) := Lib.hid ⟨by rw [HSX.out.1, HDD.out.1, decide_eq_false hm0]; simp, by rw [HSX.out.2, HDD.out.2, decide_eq_false hm0]; simp⟩
                subst hc0
                go_wp2
                exact ⟨⟨j + 1, .inr (by rw [HD1.out]; omega), by rw [HD1.out], ⟨x, y, rfl, rfl, HS3⟩, HBM⟩, by simp [intOf]; omega⟩
            · have HS3 : Hid (sumD gM F (j + 1) = x ∧ sumD gN F (j + 1) = y) := Lib.hid ⟨by rw [HSX.out.1, HDD.out.1, decide_eq_false hc0]; simp, by rw [HSX.out.2, HDD.out.2, decide_eq_false hc0]; simp⟩
              have hcq : (ce == 0) = false := beq_eq_false_iff_ne.2 hc0
              go_wp2
              exact ⟨⟨j + 1, .inr (by rw [HD1.out]; omega), by rw [HD1.out], ⟨x, y, rfl, rfl, HS3⟩, HBM⟩, by simp [intOf]; omega⟩
    · have HF : Hid (SU gM F U = x ∧ SU gN F U = y ∧ Below w.heap.size w wo) := Lib.hid (by
        have hjj : (U - F).toNat = j := by omega
        unfold SU
        rw [hjj]
        exact ⟨HXY.out.1, HXY.out.2, bTrans HB2.out HB.out⟩)
      clear hd
      go_wp2
      go_ret2
      exact ⟨by rw [HF.out.1, HF.out.2.1]; rfl, HF.out.2.2⟩
end Go.Proofs.YtlgoaohklggcdaaGreatDoor

namespace Go.Proofs.YtlgoaohklggcdaaGreatDoor
open Go.RowKit Go.Sort

/-- The kind of a code. -/
def kiB (co : ByteArray) : Int × Bool := if (co.toList == [115, 105, 99, 107]) = true then (0, true) else if (co.toList == [108, 101, 97, 118, 101]) = true then (1, true) else if (co.toList == [117, 110, 112, 97, 105, 100]) = true then (2, true) else if (co.toList == [112, 97, 114, 101, 110, 116, 97, 108]) = true then (3, true) else (0, false)
set_option maxHeartbeats 2000000 in
theorem ab_Kind (co : ByteArray) (w : World) : Calls Tryz.prog 43 #[.string co] w fun e w' => e = .returned (.tuple #[.int .i64 (kiB co).1, .bool (kiB co).2]) ∧ w = w' := by
  have HV : Hid (kiB co = if (co.toList == [115, 105, 99, 107]) = true then (0, true) else if (co.toList == [108, 101, 97, 118, 101]) = true then (1, true) else if (co.toList == [117, 110, 112, 97, 105, 100]) = true then (2, true) else if (co.toList == [112, 97, 114, 101, 110, 116, 97, 108]) = true then (3, true) else (0, false)) := Lib.hid rfl
  obtain ⟨kv, hkv⟩ : ∃ v, kiB co = v := ⟨_, rfl⟩
  rw [hkv] at HV ⊢
  clear hkv
  obtain ⟨v0, h0⟩ : ∃ v, (co.toList == [115, 105, 99, 107]) = v := ⟨_, rfl⟩
  obtain ⟨v1, h1⟩ : ∃ v, (co.toList == [108, 101, 97, 118, 101]) = v := ⟨_, rfl⟩
  obtain ⟨v2, h2⟩ : ∃ v, (co.toList == [117, 110, 112, 97, 105, 100]) = v := ⟨_, rfl⟩
  obtain ⟨v3, h3⟩ : ∃ v, (co.toList == [112, 97, 114, 101, 110, 116, 97, 108]) = v := ⟨_, rfl⟩
  rw [h0, h1, h2, h3] at HV
  cases v0
  all_goals cases v1
  all_goals cases v2
  all_goals cases v3
  all_goals
    have HF := Lib.hid HV.out
    clear HV
    simp only [if_true, if_false, Bool.false_eq_true] at HF
    go_enter Tryz.func43, Tryz.ntmps43
    go_wp2
    go_ret2
    exact ⟨by rw [HF.out]; rfl, by first | trivial | rfl⟩
def withB (F U : Int) : Bool := decide (U ≤ F) || (calB F && calB (U - 1))
theorem wd_cal (d : Int) : (calB d = true → ¬ wdV d < 0) ∧ (calB d = false → wdV d = -1) := by
  unfold calB wdV
  by_cases h : -25567 ≤ d ∧ d ≤ 84005
  · rw [if_pos h, decide_eq_true h.1, decide_eq_true h.2]
    exact ⟨fun _ => by omega, fun e => by simp at e⟩
  · rw [if_neg h]
    refine ⟨fun e => ?_, fun _ => rfl⟩
    simp at e
    exact absurd e h
set_option maxHeartbeats 2000000 in
theorem ab_within (F U : Int) (w : World) (hF : -9223372036854775808 ≤ F ∧ F ≤ 9223372036854775807) (hU : -9223372036854775808 ≤ U ∧ U ≤ 9223372036854775807) : Calls Tryz.prog 80 #[.agg #[.int .i64 F, .int .i64 U]] w fun e w' => e = .returned (.bool (withB F U)) ∧ Below w.heap.size w w' := by
  obtain ⟨sb, hsb⟩ : ∃ z, w.heap.size = z := ⟨_, rfl⟩
  obtain ⟨w2, hw2⟩ : ∃ z, w.alloc (.cells #[.int .i64 F, .int .i64 U] 31) = z := ⟨_, rfl⟩
  have hk : Bk sb 31 #[.int .i64 F, .int .i64 U] w2 := by rw [← hw2, ← hsb]; exact Bk.new _ _ _
  have HB2 : Hid (Below w.heap.size w w2) := Lib.hid (by rw [← hw2]; exact bAlloc _ _)
  have S0 : w2.cell? ⟨sb, 0, none⟩ = some (.int .i64 F) := hk.cell 0
  have S1 : w2.cell? ⟨sb, 1, none⟩ = some (.int .i64 U) := hk.cell 1
  have HE := Lib.hid (And.intro hsb hw2)
  have HV : Hid (withB F U = (decide (U ≤ F) || (calB F && calB (U - 1)))) := Lib.hid rfl
  obtain ⟨v, hv⟩ : ∃ v, withB F U = v := ⟨_, rfl⟩
  rw [hv] at HV ⊢
  clear hsb hw2 hk hv
  by_cases h : U ≤ F
  · have HF : Hid (v = true) := Lib.hid (by rw [HV.out, decide_eq_true h]; rfl)
    go_enter Tryz.func80, Tryz.ntmps80
    go_upto_region 1 with fail
    rw [HE.out.1, HE.out.2]
    clear HE
    go_wp2
    go_ret
    exact ⟨by rw [HF.out]; rfl, HB2.out⟩
  · have HW1 := Lib.hid (civ_Weekday F w2 hF)
    have HW2 := Lib.hid (civ_Weekday (U - 1) w2 (by omega))
    have HC1 := Lib.hid (wd_cal F)
    have HC2 := Lib.hid (wd_cal (U - 1))
    have HV2 : Hid (v = (calB F && calB (U - 1))) := Lib.hid (by rw [HV.out, decide_eq_false h]; rfl)
    clear HV
    go_enter Tryz.func80, Tryz.ntmps80
    go_upto_region 1 with fail
    rw [HE.out.1, HE.out.2]
    clear HE
    go_wp2_with fail
    refine HW1.out.mono ?_
    rintro e wz ⟨rfl, hwz⟩
    subst hwz
    clear HW1
    obtain ⟨c1, hc1⟩ : ∃ c, calB F = c := ⟨_, rfl⟩
    obtain ⟨c2, hc2⟩ : ∃ c, calB (U - 1) = c := ⟨_, rfl⟩
    rw [hc1] at HC1 HV2
    rw [hc2] at HC2 HV2
    clear hc1 hc2
    cases c1 with
    | false =>
      have hz := HC1.out.2 rfl
      have HF : Hid (v = false) := Lib.hid HV2.out
      rw [hz]
      clear hz HC1 HC2
      go_wp2
      go_ret
      exact ⟨by rw [HF.out]; rfl, HB2.out⟩
    | true =>
      obtain ⟨z, hz⟩ : ∃ z, wdV F = z := ⟨_, rfl⟩
      have hz0 : ¬ z < 0 := by rw [← hz]; have h1 := HC1.out.1 rfl; omega
      have hz1 : 0 ≤ z := by omega
      rw [hz]
      clear hz HC1
      go_wp2_with fail
      refine HW2.out.mono ?_
      rintro e wz ⟨rfl, hwz⟩
      subst hwz
      clear HW2
      cases c2 with
      | false =>
        have hz := HC2.out.2 rfl
        have HF : Hid (v = false) := Lib.hid HV2.out
        rw [hz]
        clear hz HC2
        go_wp2
        go_ret
        exact ⟨by rw [HF.out]; rfl, HB2.out⟩
      | true =>
        obtain ⟨y, hy⟩ : ∃ z, wdV (U - 1) = z := ⟨_, rfl⟩
        have hy0 : ¬ y < 0 := by rw [← hy]; have h1 := HC2.out.1 rfl; omega
        have hy1 : 0 ≤ y := by omega
        have HF : Hid (v = true) := Lib.hid HV2.out
        rw [hy]
        clear hy HC2
        go_wp2
        go_ret
        exact ⟨by rw [HF.out]; first | rfl | (simp; omega), HB2.out⟩
theorem ab_Of1 (x : Kn) (p : Nat) (n : Int) (w : World) (hp : w.cell? ⟨p, 2, none⟩ = some (.int .i64 n)) :
    Calls Tryz.prog 82 #[.agg #[.int .i64 x.1, .int .u32 x.2.id, .int .u32 x.2.pe, .int .i64 x.2.ki, .int .i64 x.2.fr, .int .i64 x.2.to, .string x.2.co, .int .i64 x.2.nu, .string x.2.tx], .pointer (some ⟨p, 0, none⟩)] w fun e w' => e = .returned (.bool (x.1 == n)) ∧ Below w.heap.size w w' := by
  have hlt := cell_lt hp
  simp only at hlt
  have HB := Lib.hid (bAlloc w (.cells #[.int .i64 x.1, .int .u32 x.2.id, .int .u32 x.2.pe, .int .i64 x.2.ki, .int .i64 x.2.fr, .int .i64 x.2.to, .string x.2.co, .int .i64 x.2.nu, .string x.2.tx] 122))
  go_enter Tryz.func82, Tryz.ntmps82
  go_wp2
  go_ret
  exact ⟨rfl, HB.out⟩
set_option maxHeartbeats 2000000 in
set_option maxRecDepth 10000 in
theorem ab_Index (X : List Kn) (A : Option Addr) (cap p j : Nat) (n : Int) (y : Kn) (w : World) (hn : X.length ≤ 1000000) (hs : SlK1 w A X) (hp : w.cell? ⟨p, 2, none⟩ = some (.int .i64 n)) (hj : X[j]? = some y) (hy : y.1 = n) (hf : ∀ i x, i < j → X[i]? = some x → x.1 ≠ n) :
    Calls Tryz.prog 81 #[.slice A X.length cap, .func (.func 82) #[] #[.pointer (some ⟨p, 0, none⟩)]] w fun e w' => e = .returned (.int .i64 j) ∧ Below w.heap.size w w' := by
  have HS := Lib.hid hs
  have HPC := Lib.hid hp
  have HJ := Lib.hid (And.intro hj hy)
  have HF := Lib.hid hf
  have hjl := (List.getElem?_eq_some_iff.1 hj).1
  clear hs hp hj hy hf
  go_enter Tryz.func81, Tryz.ntmps81
  go_wp2
  go_loopw [5, 8] (fun _ iv wr => ∃ k : Nat, k ≤ j ∧ iv = .int .i64 k ∧ Hid (Below w.heap.size w wr)) (fun _ iv _ => X.length - (intOf iv).toNat)
  case atStart => exact ⟨0, Nat.zero_le _, rfl, Lib.hid (Below.refl _ _)⟩
  case round =>
    obtain ⟨k, hk, rfl, HB⟩ := hrel
    obtain ⟨x, hx⟩ : ∃ x, X[k]? = some x := ⟨_, List.getElem?_eq_getElem (by omega)⟩
    obtain ⟨b, off, rfl, _, hat⟩ := HS.out (by intro h; simp [h] at hx)
    have C0 : wr.cell? ⟨b, off + k * 9, none⟩ = some (.int .i64 x.1) := bCell HB.out (hat k _ hx 0 _ rfl)
    have C1 : wr.cell? ⟨b, off + k * 9 + 1, none⟩ = some (.int .u32 x.2.id) := bCell HB.out (hat k _ hx 1 _ rfl)
    have C2 : wr.cell? ⟨b, off + k * 9 + 2, none⟩ = some (.int .u32 x.2.pe) := bCell HB.out (hat k _ hx 2 _ rfl)
    have C3 : wr.cell? ⟨b, off + k * 9 + 3, none⟩ = some (.int .i64 x.2.ki) := bCell HB.out (hat k _ hx 3 _ rfl)
    have C4 : wr.cell? ⟨b, off + k * 9 + 4, none⟩ = some (.int .i64 x.2.fr) := bCell HB.out (hat k _ hx 4 _ rfl)
    have C5 : wr.cell? ⟨b, off + k * 9 + 5, none⟩ = some (.int .i64 x.2.to) := bCell HB.out (hat k _ hx 5 _ rfl)
    have C6 : wr.cell? ⟨b, off + k * 9 + 6, none⟩ = some (.string x.2.co) := bCell HB.out (hat k _ hx 6 _ rfl)
    have C7 : wr.cell? ⟨b, off + k * 9 + 7, none⟩ = some (.int .i64 x.2.nu) := bCell HB.out (hat k _ hx 7 _ rfl)
    have C8 : wr.cell? ⟨b, off + k * 9 + 8, none⟩ = some (.string x.2.tx) := bCell HB.out (hat k _ hx 8 _ rfl)
    have HX := Lib.hid hx
    have HPL := Lib.hid (ab_Of1 x p n wr (bCell HB.out HPC.out))
    have hkl : (k : Int) < (X.length : Int) := by omega
    clear hat hx
    by_cases hkj : k = j
    · have bi : (x.1 == n) = true := by
        have h1 := HX.out
        rw [hkj, HJ.out.1] at h1
        injection h1 with h1
        rw [← h1]
        exact beq_iff_eq.2 HJ.out.2
      rw [bi] at HPL
      clear bi
      subst hkj
      go_wp2_with fail
      refine (HPL.out).mono ?_
      rintro e w1 ⟨rfl, hb1⟩
      have HBF := Lib.hid (bTrans HB.out hb1)
      clear hb1
      go_wp2
      go_ret
      exact ⟨rfl, HBF.out⟩
    · have bi : (x.1 == n) = false := beq_eq_false_iff_ne.2 (HF.out k x (by omega) HX.out)
      rw [bi] at HPL
      clear bi
      go_wp2_with fail
      refine (HPL.out).mono ?_
      rintro e w1 ⟨rfl, hb1⟩
      have HBF := Lib.hid (bTrans HB.out hb1)
      clear hb1 C0 C1 C2 C3 C4 C5 C6 C7 C8
      go_wp2
      exact ⟨⟨k + 1, by omega, by go_num, HBF⟩, by simp [intOf]; omega⟩
end Go.Proofs.YtlgoaohklggcdaaGreatDoor
