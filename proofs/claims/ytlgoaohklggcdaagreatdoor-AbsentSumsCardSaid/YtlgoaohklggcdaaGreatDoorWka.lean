import Derived.Test.YtlgoaohklggcdaaGreatDoorTma
/- week.Pattern: right, Check. -/
namespace Go.Proofs.YtlgoaohklggcdaaGreatDoor
open Go.RowKit Go.Sort

def prevB (p : Option Int) (d : Int) : Bool := match p with
  | some q => decide (d ≤ q)
  | none => false
/-- What is wrong with free days. -/
def frE (p : Option Int) : List Int → Int
  | [] => 0
  | d :: l => if ¬ (-25567 ≤ d ∧ d ≤ 84005) then 15 else if prevB p d = true then 8 else frE (some d) l
def chkP (h : Nat → Int) (D : List Int) : Int := if rightB h = false then 2 else if 4096 < D.length then 5 else frE none D
/-- The free days ahead of one are right. -/
def frTo (D : List Int) (k : Nat) : Prop := frE none D = frE (if k = 0 then none else D[k - 1]?) (D.drop k)
theorem frTo_zero (D : List Int) : frTo D 0 := rfl
theorem frTo_one {D : List Int} {k : Nat} {d : Int} (h : frTo D k) (hd : D[k]? = some d) : frE none D = if ¬ (-25567 ≤ d ∧ d ≤ 84005) then 15 else if prevB (if k = 0 then none else D[k - 1]?) d = true then 8 else frE (some d) (D.drop (k + 1)) := by
  unfold frTo at h
  have hk := (List.getElem?_eq_some_iff.1 hd)
  rw [h, List.drop_eq_getElem_cons hk.1, hk.2]
  rfl
theorem frTo_succ {D : List Int} {k : Nat} {d : Int} (h : frTo D k) (hd : D[k]? = some d) (h1 : -25567 ≤ d ∧ d ≤ 84005) (h2 : k = 0 ∨ ∃ q, D[k - 1]? = some q ∧ q < d) : frTo D (k + 1) := by
  have h3 := frTo_one h hd
  unfold frTo
  rw [h3, if_neg (by omega), if_neg, if_neg (by omega), show k + 1 - 1 = k from rfl, hd]
  rcases h2 with rfl | ⟨q, h2, h4⟩
  · simp [prevB]
  · by_cases hk : k = 0
    · rw [if_pos hk]; simp [prevB]
    · rw [if_neg hk, h2]; simp [prevB]; omega
theorem frTo_15 {D : List Int} {k : Nat} {d : Int} (h : frTo D k) (hd : D[k]? = some d) (h1 : ¬ (-25567 ≤ d ∧ d ≤ 84005)) : frE none D = 15 := by
  rw [frTo_one h hd, if_pos h1]
theorem frTo_8 {D : List Int} {k : Nat} {d q : Int} (h : frTo D k) (hd : D[k]? = some d) (h1 : -25567 ≤ d ∧ d ≤ 84005) (hk : k ≠ 0) (hq : D[k - 1]? = some q) (h2 : d ≤ q) : frE none D = 8 := by
  rw [frTo_one h hd, if_neg (by omega), if_pos]
  rw [if_neg hk, hq]
  simpa [prevB] using h2
theorem frTo_end {D : List Int} (h : frTo D D.length) : frE none D = 0 := by
  unfold frTo at h
  rw [h, List.drop_length]
  rfl
theorem frE_ok : ∀ {D : List Int} {p : Option Int}, frE p D = 0 → D.Pairwise (· < ·) ∧ (∀ d ∈ D, -25567 ≤ d ∧ d ≤ 84005) ∧ (∀ q, p = some q → ∀ d ∈ D, q < d)
  | [], p, _ => ⟨.nil, fun _ h => absurd h (List.not_mem_nil), fun _ _ _ h => absurd h (List.not_mem_nil)⟩
  | d :: l, p, h => by
    unfold frE at h
    by_cases h1 : -25567 ≤ d ∧ d ≤ 84005
    · rw [if_neg (by omega)] at h
      by_cases h2 : prevB p d = true
      · rw [if_pos h2] at h; simp at h
      · rw [if_neg h2] at h
        obtain ⟨i1, i2, i3⟩ := frE_ok h
        refine ⟨List.pairwise_cons.2 ⟨fun x hx => i3 d rfl x hx, i1⟩, fun x hx => ?_, fun q hq x hx => ?_⟩
        · rcases List.mem_cons.1 hx with rfl | hx
          · exact h1
          · exact i2 x hx
        · rw [hq] at h2
          simp [prevB] at h2
          rcases List.mem_cons.1 hx with rfl | hx
          · exact h2
          · have := i3 d rfl x hx; omega
    · rw [if_pos h1] at h; simp at h
set_option maxHeartbeats 4000000 in
set_option maxRecDepth 100000 in
theorem wk_Check (h : Nat → Int) (D : List Int) (A : Option Addr) (c : Nat) (w : World) (hn : D.length ≤ 9223372036854775807) (hs : Sl encDd 1 w w.heap.size A D) (hd : ∀ d ∈ D, -9223372036854775808 ≤ d ∧ d ≤ 9223372036854775807) :
    Calls Tryz.prog 49 #[.agg #[.int .i64 (h 0), .int .i64 (h 1), .int .i64 (h 2), .int .i64 (h 3), .int .i64 (h 4), .int .i64 (h 5), .int .i64 (h 6), .slice A D.length c]] w fun e w' => e = .returned (.int .i64 (chkP h D)) ∧ Below w.heap.size w w' := by
  obtain ⟨pb, hpb⟩ : ∃ z, w.heap.size = z := ⟨_, rfl⟩
  obtain ⟨w2, hw2⟩ : ∃ z, w.alloc (.cells #[.int .i64 (h 0), .int .i64 (h 1), .int .i64 (h 2), .int .i64 (h 3), .int .i64 (h 4), .int .i64 (h 5), .int .i64 (h 6), .slice A D.length c] 85) = z := ⟨_, rfl⟩
  have hb2 : Below w.heap.size w w2 := by rw [← hw2]; exact bAlloc _ _
  have HB2 := Lib.hid hb2
  have HK2 : Hid (Bk pb 85 #[.int .i64 (h 0), .int .i64 (h 1), .int .i64 (h 2), .int .i64 (h 3), .int .i64 (h 4), .int .i64 (h 5), .int .i64 (h 6), .slice A D.length c] w2) := Lib.hid (by rw [← hw2, ← hpb]; exact Bk.new _ _ _)
  have HS2 := Lib.hid (sl_bel hs hb2)
  have HD := Lib.hid hd
  have HRI : Hid (Calls Tryz.prog 92 #[.agg #[.int .i64 (h 0), .int .i64 (h 1), .int .i64 (h 2), .int .i64 (h 3), .int .i64 (h 4), .int .i64 (h 5), .int .i64 (h 6)]] w2 fun e w' => e = .returned (.bool (rightB h)) ∧ Grows w2 w') := Lib.hid (wk_right h w2)
  have HE := Lib.hid (And.intro hpb hw2)
  have HCH : Hid (chkP h D = if rightB h = false then 2 else if 4096 < D.length then 5 else frE none D) := Lib.hid rfl
  obtain ⟨rb, hrb⟩ : ∃ z, rightB h = z := ⟨_, rfl⟩
  rw [hrb] at HRI HCH
  obtain ⟨ce, hce⟩ : ∃ z, chkP h D = z := ⟨_, rfl⟩
  rw [hce] at HCH ⊢
  clear hs hb2 hw2 hpb hd hrb hce
  have K0 : w2.cell? ⟨pb, 0, none⟩ = some (.int .i64 (h 0)) := HK2.out.cell 0
  have K1 : w2.cell? ⟨pb, 1, none⟩ = some (.int .i64 (h 1)) := HK2.out.cell 1
  have K2 : w2.cell? ⟨pb, 2, none⟩ = some (.int .i64 (h 2)) := HK2.out.cell 2
  have K3 : w2.cell? ⟨pb, 3, none⟩ = some (.int .i64 (h 3)) := HK2.out.cell 3
  have K4 : w2.cell? ⟨pb, 4, none⟩ = some (.int .i64 (h 4)) := HK2.out.cell 4
  have K5 : w2.cell? ⟨pb, 5, none⟩ = some (.int .i64 (h 5)) := HK2.out.cell 5
  have K6 : w2.cell? ⟨pb, 6, none⟩ = some (.int .i64 (h 6)) := HK2.out.cell 6
  go_enter Tryz.func49, Tryz.ntmps49
  go_upto_region 1 with fail
  rw [HE.out.1, HE.out.2]
  clear HE
  go_wp2_with fail
  refine HRI.out.mono ?_
  rintro e w3 ⟨rfl, hg3⟩
  have HB3 : Hid (Below w2.heap.size w2 w3) := Lib.hid hg3.below
  clear hg3 HRI K0 K1 K2 K3 K4 K5 K6
  have HK3 : Hid (w3.cell? ⟨pb, 7, none⟩ = some (.slice A D.length c)) := Lib.hid (bCell HB3.out (HK2.out.cell 7))
  have HS3 := Lib.hid (sl_bel HS2.out HB3.out)
  have HBW : Hid (Below w.heap.size w w3) := Lib.hid (bTrans HB2.out HB3.out)
  clear HB2 HB3 HS2 HK2
  cases rb with
  | false =>
    have HV : Hid (ce = 2) := Lib.hid HCH.out
    go_wp2
    go_ret
    exact ⟨by rw [HV.out]; rfl, HBW.out⟩
  | true =>
    have K7 := HK3.out
    by_cases h4 : (4096 : Int) < (D.length : Int)
    · have HV : Hid (ce = 5) := Lib.hid (by rw [HCH.out, if_neg (by simp), if_pos (by omega)])
      go_wp2
      go_ret
      exact ⟨by rw [HV.out]; rfl, HBW.out⟩
    have HV : Hid (ce = frE none D) := Lib.hid (by rw [HCH.out, if_neg (by simp), if_neg (by omega)])
    clear HCH
    go_wp2
    go_loopw [18] (fun kv wr => ∃ k : Nat, k ≤ D.length ∧ kv = .int .i64 k ∧ Hid (frTo D k) ∧ w3 = wr) (fun kv _ => D.length - (intOf kv).toNat)
    case atStart => exact ⟨0, Nat.zero_le _, rfl, Lib.hid (frTo_zero D), rfl⟩
    case round =>
      obtain ⟨k, hk, rfl, HF, hww⟩ := hrel
      subst hww
      by_cases hlt : k < D.length
      · obtain ⟨d, hx⟩ : ∃ x, D[k]? = some x := ⟨_, List.getElem?_eq_getElem hlt⟩
        obtain ⟨g, o, rfl, _, hat⟩ := HS3.out (by intro h; simp [h] at hx)
        have C0 : w3.cell? ⟨g, o + k, none⟩ = some (.int .i64 d) := by
          have := hat k _ hx 0 _ rfl
          simpa using this
        have HWD := Lib.hid (civ_Weekday d w3 (HD.out d (List.mem_of_getElem? hx)))
        have HX := Lib.hid hx
        have hlt2 : (k : Int) < (D.length : Int) := by omega
        have HAT := Lib.hid hat
        clear hx hat
        go_wp2_with fail
        refine HWD.out.mono ?_
        rintro e wz ⟨rfl, hwz⟩
        subst hwz
        clear HWD
        by_cases hc : -25567 ≤ d ∧ d ≤ 84005
        · have hwd : wdV d = (d + 25567) % 7 := by unfold wdV; rw [if_pos hc]
          obtain ⟨z, hz⟩ : ∃ z, (d + 25567) % 7 = z := ⟨_, rfl⟩
          have hz0 : ¬ z < 0 := by omega
          rw [hwd, hz]
          clear hwd hz
          by_cases hk0 : k = 0
          · subst hk0
            have HF2 := Lib.hid (frTo_succ HF.out HX.out hc (.inl rfl))
            clear hc
            go_wp2
            exact ⟨⟨0 + 1, by omega, by go_num, HF2, by first | trivial | rfl⟩, by simp [intOf]; omega⟩
          · obtain ⟨j, rfl⟩ : ∃ j, k = j + 1 := ⟨k - 1, by omega⟩
            obtain ⟨q, hq⟩ : ∃ q, D[j]? = some q := ⟨_, List.getElem?_eq_getElem (by omega)⟩
            have C1 : w3.cell? ⟨g, o + j, none⟩ = some (.int .i64 q) := by
              have := HAT.out j _ hq 0 _ rfl
              simpa using this
            have HQ := Lib.hid hq
            have hj0 : (0 : Int) < ((j + 1 : Nat) : Int) := by omega
            have hjl : (j : Int) < (D.length : Int) := by omega
            clear hq hk0
            by_cases hqd : d ≤ q
            · have HV2 : Hid (ce = 8) := Lib.hid (by rw [HV.out]; exact frTo_8 HF.out HX.out hc (by omega) HQ.out hqd)
              clear hc
              go_wp2
              go_ret
              exact ⟨by rw [HV2.out]; rfl, HBW.out⟩
            · have HF2 := Lib.hid (frTo_succ HF.out HX.out hc (.inr ⟨q, HQ.out, by omega⟩))
              clear hc
              go_wp2
              exact ⟨⟨j + 1 + 1, by omega, by go_num, HF2, by first | trivial | rfl⟩, by simp [intOf]; omega⟩
        · have hwd : wdV d = -1 := by unfold wdV; rw [if_neg hc]
          have HV2 : Hid (ce = 15) := Lib.hid (by rw [HV.out]; exact frTo_15 HF.out HX.out hc)
          rw [hwd]
          clear hwd hc
          go_wp2
          go_ret
          exact ⟨by rw [HV2.out]; rfl, HBW.out⟩
      · obtain rfl : k = D.length := by omega
        have HV2 : Hid (ce = 0) := Lib.hid (by rw [HV.out]; exact frTo_end HF.out)
        clear hlt
        go_wp2
        go_ret
        exact ⟨by rw [HV2.out]; rfl, HBW.out⟩
end Go.Proofs.YtlgoaohklggcdaaGreatDoor
