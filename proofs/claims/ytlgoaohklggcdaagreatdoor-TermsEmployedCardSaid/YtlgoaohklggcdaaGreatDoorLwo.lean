import Derived.Test.YtlgoaohklggcdaaGreatDoorLwn
import Derived.Test.YtlgoaohklggcdaaGreatDoorRgz
/- span.Set's Has and Days. -/
namespace Go.Proofs.YtlgoaohklggcdaaGreatDoor
open Go.RowKit Go.Sort

set_option maxHeartbeats 2000000 in
theorem sp_cmpH (x : Spn) (d : Int) (w : World) : Calls Tryz.prog 70 #[.agg #[.int .i64 x.1, .int .i64 x.2], .int .i64 d] w fun e w' => e = .returned (.int .i64 (cfD x.1 d)) ∧ Below w.heap.size w w' := by
  go_enter Tryz.func70, Tryz.ntmps70
  go_wp2_with fail
  refine (dd_Compare x.1 d _).mono ?_
  rintro e w1 ⟨rfl, rfl⟩
  have HF := Lib.hid (bAlloc w (.cells #[.int .i64 x.1, .int .i64 x.2] 31))
  go_wp2
  go_ret
  exact ⟨rfl, HF.out⟩
def fndB (E : List Spn) (d : Int) (i : Nat) : Bool := match E[i]? with
  | some s => decide (s.1 = d)
  | none => false
structure SrI (E : List Spn) (d : Int) (i j : Nat) : Prop where
  lo : ∀ k s, k < i → E[k]? = some s → s.1 < d
  hi : ∀ k s, j ≤ k → E[k]? = some s → d ≤ s.1
set_option maxHeartbeats 4000000 in
set_option maxRecDepth 100000 in
theorem sl_Search (E : List Spn) (A : Option Addr) (c : Nat) (d : Int) (w : World) (hn : E.length ≤ 100000) (hp : E.Pairwise fun x y => x.1 < y.1) (hs : Sl encSp 2 w w.heap.size A E) :
    Calls Tryz.prog 69 #[.slice A E.length c, .int .i64 d, .func (.func 70) #[] #[]] w fun e w' => (∃ i : Nat, i ≤ E.length ∧ SrI E d i i ∧ e = .returned (.tuple #[.int .i64 i, .bool (fndB E d i)])) ∧ Below w.heap.size w w' := by
  have HS := Lib.hid hs
  have HP := Lib.hid hp
  clear hs hp
  go_enter Tryz.func69, Tryz.ntmps69
  go_wp2
  go_loopw [9, 10] (fun iv jv wr => ∃ i j : Nat, i ≤ j ∧ j ≤ E.length ∧ iv = .int .i64 i ∧ jv = .int .i64 j ∧ Hid (SrI E d i j) ∧ Hid (Below w.heap.size w wr)) (fun iv jv _ => (intOf jv).toNat - (intOf iv).toNat)
  case atStart => exact ⟨0, E.length, Nat.zero_le _, Nat.le_refl _, rfl, rfl, Lib.hid ⟨fun k s h _ => absurd h (Nat.not_lt_zero _), fun k s h hk => absurd (List.getElem?_eq_some_iff.1 hk).1 (by omega)⟩, Lib.hid (Below.refl _ _)⟩
  case round =>
    obtain ⟨i, j, hij, hj, rfl, rfl, HI, HB⟩ := hrel
    obtain ⟨wo, hwo⟩ : ∃ x : World, x = wr := ⟨_, rfl⟩
    subst hwo
    by_cases hlt : i < j
    · obtain ⟨h, hh⟩ : ∃ h, (i + j) / 2 = h := ⟨_, rfl⟩
      have h1 : i ≤ h ∧ h < j := by omega
      obtain ⟨⟨p1, p2⟩, hx⟩ : ∃ x, E[h]? = some x := ⟨_, List.getElem?_eq_getElem (by omega)⟩
      obtain ⟨g, o, rfl, _, hat⟩ := HS.out (by intro h; simp [h] at hx)
      have C0 : wo.cell? ⟨g, o + h * 2, none⟩ = some (.int .i64 p1) := bCell HB.out (hat h _ hx 0 _ rfl)
      have C1 : wo.cell? ⟨g, o + h * 2 + 1, none⟩ = some (.int .i64 p2) := bCell HB.out (hat h _ hx 1 _ rfl)
      have HX := Lib.hid hx
      have HHI : Hid (((i : Int) + (j : Int)) / 2 = (h : Int)) := Lib.hid (by omega)
      have HCM := Lib.hid (sp_cmpH (p1, p2) d wo)
      have hlt2 : (i : Int) < (j : Int) := by omega
      have hhl : (h : Int) < (E.length : Int) := by omega
      clear hx hat hh hlt
      go_upto_region 5 with fail
      rw [HHI.out]
      clear HHI
      go_wp2_with fail
      refine HCM.out.mono ?_
      rintro e wn ⟨rfl, hbn⟩
      have HBN : Hid (Below w.heap.size w wn) := Lib.hid (bTrans HB.out hbn)
      clear hbn C0 C1 HCM
      by_cases hpd : p1 < d
      · have hcf : cfD p1 d = -1 := by unfold cfD; rw [if_pos hpd]
        have HI2 : Hid (SrI E d (h + 1) j) := Lib.hid ⟨fun k s hk hs => by
          by_cases hkh : k = h
          · rw [hkh, HX.out] at hs
            injection hs with hs
            rw [← hs]
            exact hpd
          · have hkl := (List.getElem?_eq_some_iff.1 hs)
            have := List.pairwise_iff_getElem.1 HP.out k h (by have := hkl.1; omega) (by omega) (by omega)
            rw [hkl.2, (List.getElem?_eq_some_iff.1 HX.out).2] at this
            simp at this
            omega, HI.out.hi⟩
        simp only [hcf]
        go_wp2
        exact ⟨⟨h + 1, j, by omega, hj, by go_num, rfl, HI2, HBN⟩, by simp [intOf]; omega⟩
      · have HI2 : Hid (SrI E d i h) := Lib.hid ⟨HI.out.lo, fun k s hk hs => by
          by_cases hkh : k = h
          · rw [hkh, HX.out] at hs
            injection hs with hs
            rw [← hs]
            simp
            omega
          · have hkl := (List.getElem?_eq_some_iff.1 hs)
            have := List.pairwise_iff_getElem.1 HP.out h k (by omega) (by have := hkl.1; omega) (by omega)
            rw [hkl.2, (List.getElem?_eq_some_iff.1 HX.out).2] at this
            simp at this
            omega⟩
        obtain ⟨z, hz⟩ : ∃ z, cfD p1 d = z := ⟨_, rfl⟩
        have hz0 : ¬ z < 0 := by rw [← hz]; unfold cfD; rw [if_neg hpd]; split <;> omega
        simp only [hz]
        clear hz
        go_wp2
        exact ⟨⟨i, h, by omega, by omega, rfl, by go_num, HI2, HBN⟩, by simp [intOf]; omega⟩
    · obtain rfl : i = j := by omega
      clear hlt hij
      by_cases hil : i < E.length
      · obtain ⟨⟨p1, p2⟩, hx⟩ : ∃ x, E[i]? = some x := ⟨_, List.getElem?_eq_getElem (by omega)⟩
        obtain ⟨g, o, rfl, _, hat⟩ := HS.out (by intro h; simp [h] at hx)
        have C0 : wo.cell? ⟨g, o + i * 2, none⟩ = some (.int .i64 p1) := bCell HB.out (hat i _ hx 0 _ rfl)
        have C1 : wo.cell? ⟨g, o + i * 2 + 1, none⟩ = some (.int .i64 p2) := bCell HB.out (hat i _ hx 1 _ rfl)
        have HFB : Hid (fndB E d i = decide (p1 = d)) := Lib.hid (by unfold fndB; rw [hx])
        have HCM := Lib.hid (sp_cmpH (p1, p2) d wo)
        have hil2 : (i : Int) < (E.length : Int) := by omega
        clear hx hat hil
        go_wp2_with fail
        refine HCM.out.mono ?_
        rintro e wn ⟨rfl, hbn⟩
        have HBN : Hid (Below w.heap.size w wn) := Lib.hid (bTrans HB.out hbn)
        clear hbn C0 C1 HCM
        by_cases hpd : p1 = d
        · have hcf : cfD p1 d = 0 := by unfold cfD; rw [if_neg (by omega), if_neg (by omega)]
          have HFB2 : Hid (fndB E d i = true) := Lib.hid (by rw [HFB.out]; exact decide_eq_true hpd)
          simp only [hcf]
          clear hpd hcf
          go_wp2
          go_ret2
          exact ⟨⟨i, hj, HI.out, by first | (rw [HFB2.out]; done) | (rw [HFB2.out]; rfl)⟩, HBN.out⟩
        · obtain ⟨z, hz⟩ : ∃ z, cfD p1 d = z := ⟨_, rfl⟩
          have hz0 : ¬ z = 0 := by rw [← hz]; unfold cfD; split <;> (try split) <;> omega
          have HFB2 : Hid (fndB E d i = false) := Lib.hid (by rw [HFB.out]; exact decide_eq_false hpd)
          have hzq : (z == 0) = false := beq_eq_false_iff_ne.2 hz0
          simp only [hz]
          clear hz hpd
          go_wp2
          go_ret2
          exact ⟨⟨i, hj, HI.out, by first | (rw [HFB2.out]; done) | (rw [HFB2.out]; rfl)⟩, HBN.out⟩
      · have HFB2 : Hid (fndB E d i = false) := Lib.hid (by unfold fndB; rw [List.getElem?_eq_none (by omega)])
        have hil2 : ¬ (i : Int) < (E.length : Int) := by omega
        clear hil
        go_wp2
        go_ret2
        exact ⟨⟨i, hj, HI.out, by first | (rw [HFB2.out]; done) | (rw [HFB2.out]; rfl)⟩, HB.out⟩
set_option maxHeartbeats 2000000 in
set_option maxRecDepth 100000 in
theorem sp_Has (E : List Spn) (A : Option Addr) (c : Nat) (d : Int) (w : World) {b : Int} (hn : E.length ≤ 100000) (hp : SepS E b) (hs : Sl encSp 2 w w.heap.size A E) :
    Calls Tryz.prog 27 #[.agg #[.slice A E.length c], .int .i64 d] w fun e w' => e = .returned (.bool (hasb E d)) ∧ Below w.heap.size w w' := by
  obtain ⟨eb, heb⟩ : ∃ z, w.heap.size = z := ⟨_, rfl⟩
  obtain ⟨w2, hw2⟩ : ∃ z, w.alloc (.cells #[.slice A E.length c] 74) = z := ⟨_, rfl⟩
  have hb2 : Below w.heap.size w w2 := by rw [← hw2]; exact bAlloc _ _
  have HK2 : Hid (Bk eb 74 #[.slice A E.length c] w2) := Lib.hid (by rw [← hw2, ← heb]; exact Bk.new _ _ _)
  have HSE := Lib.hid (sl_Search E A c d w2 hn hp.rise (sl_bel hs hb2))
  have HS2 := Lib.hid (sl_bel hs hb2)
  have HP := Lib.hid hp
  have HB2 := Lib.hid hb2
  have HE := Lib.hid (And.intro heb hw2)
  clear hs hp hb2 heb hw2
  go_enter Tryz.func27, Tryz.ntmps27
  go_upto_region 1 with fail
  rw [HE.out.1, HE.out.2]
  clear HE
  have C0 : w2.cell? ⟨eb, 0, none⟩ = some (.slice A E.length c) := HK2.out.cell 0
  go_wp2_with fail
  refine HSE.out.mono ?_
  rintro e w3 ⟨⟨i, hi, HI, rfl⟩, hb3⟩
  have HB3 : Hid (Below w.heap.size w w3) := Lib.hid (bTrans HB2.out hb3)
  have HAT := Lib.hid (has_at (d := d) HP.out hi HI.lo HI.hi)
  have C1 : w3.cell? ⟨eb, 0, none⟩ = some (.slice A E.length c) := bCell hb3 (HK2.out.cell 0)
  have HS3 := Lib.hid (sl_bel HS2.out hb3)
  clear HI hb3 HS2 HSE C0 HB2
  by_cases hf : fndB E d i = true
  · have HH : Hid (hasb E d = true) := Lib.hid ((hasb_iff E d).2 (HAT.out.2 (.inl (by
      unfold fndB at hf
      cases hx : E[i]? with
      | none => rw [hx] at hf; simp at hf
      | some s => rw [hx] at hf; exact ⟨s, rfl, of_decide_eq_true hf⟩))))
    rw [hf]
    clear hf
    go_wp2
    go_ret
    exact ⟨by first | (rw [HH.out]; done) | (rw [HH.out]; rfl), HB3.out⟩
  · have hf2 : fndB E d i = false := by simpa using hf
    have HNF : Hid (¬ ∃ s, E[i]? = some s ∧ s.1 = d) := Lib.hid fun ⟨s, h1, h2⟩ => hf (by unfold fndB; rw [h1]; exact decide_eq_true h2)
    rw [hf2]
    clear hf hf2
    by_cases h0 : 0 < i
    · obtain ⟨⟨p1, p2⟩, hx⟩ : ∃ x, E[i - 1]? = some x := ⟨_, List.getElem?_eq_getElem (by omega)⟩
      obtain ⟨g, o, rfl, _, hat⟩ := HS3.out (by intro h; simp [h] at hx)
      have hix : ((i : Int) - 1) = ((i - 1 : Nat) : Int) := by omega
      obtain ⟨j, hj⟩ : ∃ j, i - 1 = j := ⟨_, rfl⟩
      rw [hj] at hx hix
      have D1 : w3.cell? ⟨g, o + j * 2 + 1, none⟩ = some (.int .i64 p2) := hat j _ hx 1 _ rfl
      have h02 : (0 : Int) < (i : Int) := by omega
      have hjl : (j : Int) < (E.length : Int) := by omega
      obtain rfl : i = j + 1 := by omega
      have HX := Lib.hid hx
      clear hat hx hix hj h0
      by_cases hd : d < p2
      · have HH : Hid (hasb E d = true) := Lib.hid ((hasb_iff E d).2 (HAT.out.2 (.inr ⟨by omega, (p1, p2), HX.out, hd⟩)))
        go_wp2
        go_ret
        exact ⟨by first | (rw [HH.out]; done) | (rw [HH.out]; rfl), HB3.out⟩
      · have HH : Hid (hasb E d = false) := Lib.hid (by
          rw [← Bool.not_eq_true, hasb_iff, HAT.out]
          rintro (h | ⟨_, s, h1, h2⟩)
          · exact HNF.out h
          · rw [show j + 1 - 1 = j from rfl, HX.out] at h1
            injection h1 with h1
            subst h1
            exact hd h2)
        go_wp2
        go_ret
        exact ⟨by rw [HH.out]; exact congrArg (fun b => Ending.returned (Value.bool b)) (decide_eq_false (by omega)), HB3.out⟩
    · obtain rfl : i = 0 := by omega
      have HH : Hid (hasb E d = false) := Lib.hid (by
        rw [← Bool.not_eq_true, hasb_iff, HAT.out]
        rintro (h | ⟨h, _⟩)
        · exact HNF.out h
        · omega)
      clear h0
      go_wp2
      go_ret
      exact ⟨by first | (rw [HH.out]; done) | (rw [HH.out]; rfl), HB3.out⟩
set_option maxHeartbeats 2000000 in
set_option maxRecDepth 100000 in
theorem sp_Days (E : List Spn) (A : Option Addr) (c : Nat) (w : World) {F b : Int} (hn : E.length ≤ 100000) (hp : SepS E b) (hF : ∀ s ∈ E, F ≤ s.1) (h1 : -1000000 ≤ F) (h2 : b ≤ 1000000) (h3 : F ≤ b) (hs : Sl encSp 2 w w.heap.size A E) :
    Calls Tryz.prog 30 #[.agg #[.slice A E.length c]] w fun e w' => e = .returned (.int .i64 (sumS E)) ∧ Below w.heap.size w w' := by
  obtain ⟨eb, heb⟩ : ∃ z, w.heap.size = z := ⟨_, rfl⟩
  obtain ⟨w2, hw2⟩ : ∃ z, w.alloc (.cells #[.slice A E.length c] 74) = z := ⟨_, rfl⟩
  have hb2 : Below w.heap.size w w2 := by rw [← hw2]; exact bAlloc _ _
  have HK2 : Hid (Bk eb 74 #[.slice A E.length c] w2) := Lib.hid (by rw [← hw2, ← heb]; exact Bk.new _ _ _)
  have HS2 := Lib.hid (sl_bel hs hb2)
  have HB2 := Lib.hid hb2
  have HBD : Hid (∀ k, 0 ≤ sumS (E.take k) ∧ sumS (E.take k) ≤ 2000000) := Lib.hid fun k => by
    have := sep_sum (hp.take k) (fun s hs => hF s (List.mem_of_mem_take hs)) h3
    omega
  have HSP : Hid (∀ s ∈ E, -1000000 ≤ s.1 ∧ s.1 < s.2 ∧ s.2 ≤ 1000000) := Lib.hid fun s hs => by
    have := hF s hs
    have := hp.pos s hs
    have := hp.le s hs
    omega
  have HE := Lib.hid (And.intro heb hw2)
  clear hs hp hb2 heb hw2 hF h1 h2 h3
  go_enter Tryz.func30, Tryz.ntmps30
  go_upto_region 1 with fail
  rw [HE.out.1, HE.out.2]
  clear HE
  have C0 : w2.cell? ⟨eb, 0, none⟩ = some (.slice A E.length c) := HK2.out.cell 0
  go_wp2
  clear C0 HK2
  go_loopw [3, 9] (fun nv iv wr => ∃ k : Nat, k ≤ E.length ∧ iv = .int .i64 k ∧ nv = .int .i64 (sumS (E.take k)) ∧ Hid (Below w2.heap.size w2 wr)) (fun _ iv _ => E.length - (intOf iv).toNat)
  case atStart => exact ⟨0, Nat.zero_le _, rfl, rfl, Lib.hid (Below.refl _ _)⟩
  case round =>
    obtain ⟨k, hk, rfl, rfl, HB⟩ := hrel
    by_cases hlt : k < E.length
    · obtain ⟨⟨p1, p2⟩, hx⟩ : ∃ x, E[k]? = some x := ⟨_, List.getElem?_eq_getElem hlt⟩
      have hpp := HSP.out _ (List.mem_of_getElem? hx)
      simp only at hpp
      obtain ⟨g, o, rfl, _, hat⟩ := HS2.out (by intro h; simp [h] at hx)
      have D0 : wr.cell? ⟨g, o + k * 2, none⟩ = some (.int .i64 p1) := bCell HB.out (hat k _ hx 0 _ rfl)
      have D1 : wr.cell? ⟨g, o + k * 2 + 1, none⟩ = some (.int .i64 p2) := bCell HB.out (hat k _ hx 1 _ rfl)
      have HNX : Hid (sumS (E.take (k + 1)) = sumS (E.take k) + (p2 - p1)) := Lib.hid (sumS_take hx)
      obtain ⟨n, hnn⟩ : ∃ n, sumS (E.take k) = n := ⟨_, rfl⟩
      have hn0 : 0 ≤ n ∧ n ≤ 2000000 := by rw [← hnn]; exact HBD.out k
      obtain ⟨L, hL⟩ : ∃ L, p2 - p1 = L := ⟨_, rfl⟩
      have hL0 : 0 < L ∧ L ≤ 2000000 := by omega
      rw [hnn, hL] at HNX
      have HLN : Hid (∀ W, Calls Tryz.prog 53 #[.agg #[.int .i64 p1, .int .i64 p2]] W fun e w' => e = .returned (.int .i64 L) ∧ Below W.heap.size W w') := Lib.hid fun W => by
        have h := sp_Length p1 p2 W (by omega) (by omega)
        rw [show lenS p1 p2 = L by unfold lenS; rw [if_neg (by omega)]; omega] at h
        exact h
      obtain ⟨xb, hxb⟩ : ∃ z, wr.heap.size = z := ⟨_, rfl⟩
      obtain ⟨wx, hwx⟩ : ∃ z, wr.alloc (.cells #[.int .i64 p1, .int .i64 p2] 31) = z := ⟨_, rfl⟩
      have hbx : Below wr.heap.size wr wx := by rw [← hwx]; exact bAlloc _ _
      have HKX : Hid (Bk xb 31 #[.int .i64 p1, .int .i64 p2] wx) := Lib.hid (by rw [← hwx, ← hxb]; exact Bk.new _ _ _)
      have HBX : Hid (Below w2.heap.size w2 wx) := Lib.hid (bTrans HB.out hbx)
      have HXC : Hid (∀ W, Below wx.heap.size wx W → W.cell? ⟨xb, 0, none⟩ = some (.int .i64 p1) ∧ W.cell? ⟨xb, 1, none⟩ = some (.int .i64 p2)) := Lib.hid fun W hW => ⟨bCell hW (HKX.out.cell 0), bCell hW (HKX.out.cell 1)⟩
      have HE := Lib.hid (And.intro hxb hwx)
      have hlt2 : (k : Int) < (E.length : Int) := by omega
      rw [hnn]
      clear hx hat hpp hnn hL hxb hwx hbx HB
      go_upto_region 5 with fail
      rw [HE.out.1, HE.out.2]
      clear HE D0 D1
      refine wp_region_umk (SPS [(5, Sp.val (.pointer (some ⟨xb, 0, none⟩))), (13, Sp.val (.int .i64 n)), (14, Sp.val (.agg #[.int .i64 p1, .int .i64 p2])), (15, Sp.val (.int .i64 L)), (16, Sp.val (.int .i64 (4611686018427387904 - L))), (17, Sp.val (.int .i64 n)), (18, Sp.val (.agg #[.int .i64 p1, .int .i64 p2])), (19, Sp.val (.int .i64 L)), (20, Sp.val (.int .i64 (n + L))), (3, Sp.val (.int .i64 (n + L)))]) [] [] [13, 14, 15, 16, 17, 18, 19, 20, 3] rfl (by rfl) (by kernel_rfl) (SPS.st _) (by simp) (by simp) (by simp) (by simp) (by rfl) ?_ (opsK_all ?_) ?_
      · exact sps_start (cons_all rfl nil_all)
      · refine opsK_cons (by
         exact kz_m (opOkM_runZ rfl rfl (by kernel_rfl) (fun a W hW hini hsp => by
            have e3 : a.eval (.tmp 3) = .int .i64 n := (hini 3 (by kernel_rfl)).trans (by first | rfl | (go_simp; rfl) | go_simp)
            refine ⟨.int .i64 n, ?_, sps rfl rfl⟩
            unfold execOp
            simp only [e3]
            go_simp)) (by simp)) ?_
        refine opsK_cons (by
         exact kz_n (opOk_load (p := ⟨xb, 0, none⟩) rfl rfl (.inl rfl) (by kernel_rfl) (fun _ _ h => h.get rfl) (fun W hW => by
            obtain ⟨k0, k1⟩ := HXC.out _ hW
            exact ⟨.agg #[.int .i64 p1, .int .i64 p2], by go_simp, sps rfl rfl⟩)) (by kernel_rfl) (by simp)) ?_
        refine opsK_cons (by
         exact kz_n (opOk_callg (fun a => #[a.eval (.tmp 14)]) rfl rfl (.inl rfl) (fun a => by simp only [List.map_toArray, List.map_cons, List.map_nil] <;> rfl) (fun args W => by go_simp) (fun a W hW hsp => by
            have e14 : a.eval (.tmp 14) = .agg #[.int .i64 p1, .int .i64 p2] := (hsp 14 (by kernel_rfl)).get rfl
            simp only [e14]
            exact (HLN.out _).mono fun e w' ⟨he, hb⟩ => ⟨_, he, hb, sps rfl rfl⟩)) (by kernel_rfl) (by simp)) ?_
        refine opsK_cons (by
         exact kz_n (opOk_run rfl (.inl rfl) (fun a W hW hsp => by
            have e15 : a.eval (.tmp 15) = .int .i64 L := (hsp 15 (by kernel_rfl)).get rfl
            refine ⟨.int .i64 (4611686018427387904 - L), ?_, sps rfl rfl⟩
            unfold execOp
            simp only [e15]
            go_simp
            exact IntWalk.i64_in _ (by omega))) (by kernel_rfl) (by simp)) ?_
        refine opsK_cons (by
         exact kz_n (opOk_run rfl (.inl rfl) (fun a W hW hsp => by
            have e13 : a.eval (.tmp 13) = .int .i64 n := (hsp 13 (by kernel_rfl)).get rfl
            have e16 : a.eval (.tmp 16) = .int .i64 (4611686018427387904 - L) := (hsp 16 (by kernel_rfl)).get rfl
            refine ⟨.int .i64 n, ?_, sps rfl rfl⟩
            have q13 : a.tmps[13]?.getD undef = .int .i64 n := by rw [← Array.getD_eq_getD_getElem?]; exact e13
            have q16 : a.tmps[16]?.getD undef = .int .i64 (4611686018427387904 - L) := by rw [← Array.getD_eq_getD_getElem?]; exact e16
            have hmn : ¬ (4611686018427387904 - L < n) := by omega
            have hmm : n ≤ 4611686018427387904 - L := by omega
            unfold execOp
            go_simp
            exact Int.min_eq_left hmm)) (by kernel_rfl) (by simp)) ?_
        refine opsK_cons (by
         exact kz_n (opOk_load (p := ⟨xb, 0, none⟩) rfl rfl (.inl rfl) (by kernel_rfl) (fun _ _ h => h.get rfl) (fun W hW => by
            obtain ⟨k0, k1⟩ := HXC.out _ hW
            exact ⟨.agg #[.int .i64 p1, .int .i64 p2], by go_simp, sps rfl rfl⟩)) (by kernel_rfl) (by simp)) ?_
        refine opsK_cons (by
         exact kz_n (opOk_callg (fun a => #[a.eval (.tmp 18)]) rfl rfl (.inl rfl) (fun a => by simp only [List.map_toArray, List.map_cons, List.map_nil] <;> rfl) (fun args W => by go_simp) (fun a W hW hsp => by
            have e18 : a.eval (.tmp 18) = .agg #[.int .i64 p1, .int .i64 p2] := (hsp 18 (by kernel_rfl)).get rfl
            simp only [e18]
            exact (HLN.out _).mono fun e w' ⟨he, hb⟩ => ⟨_, he, hb, sps rfl rfl⟩)) (by kernel_rfl) (by simp)) ?_
        refine opsK_cons (by
         exact kz_n (opOk_run rfl (.inl rfl) (fun a W hW hsp => by
            have e17 : a.eval (.tmp 17) = .int .i64 n := (hsp 17 (by kernel_rfl)).get rfl
            have e19 : a.eval (.tmp 19) = .int .i64 L := (hsp 19 (by kernel_rfl)).get rfl
            refine ⟨.int .i64 (n + L), ?_, sps rfl rfl⟩
            unfold execOp
            simp only [e17, e19]
            go_simp
            exact IntWalk.i64_in _ (by omega))) (by kernel_rfl) (by simp)) ?_
        refine opsK_cons (by
         exact kz_n (opOk_assign rfl rfl (.inl rfl) (by kernel_rfl) (fun _ _ h => sps rfl (h.get rfl))) (by kernel_rfl) (by simp)) ?_
        exact opsK_nil
      · intro vs W hb hsp hmk
        have h0 : vs 3 = .int .i64 (n + L) := (hsp 3 (by simp)).get rfl
        have HBZ := Lib.hid (bTrans HBX.out hb)
        clear hmk hsp hb HBX HXC HKX HLN
        simp only [putAll, h0]
        go_simp
        go_wp2
        exact ⟨⟨k + 1, by omega, by go_num, by rw [HNX.out], HBZ⟩, by simp [intOf]; omega⟩
    · obtain rfl : k = E.length := by omega
      have HF := Lib.hid (bTrans HB2.out HB.out)
      clear hlt
      go_wp2
      go_ret
      exact ⟨by first | rfl | (rw [List.take_length]; rfl), HF.out⟩
end Go.Proofs.YtlgoaohklggcdaaGreatDoor
