import Derived.Test.YtlgoaohklggcdaaGreatDoorLwd
/- law16.TermsSpans. Printed by gen/mklw16b.py. -/
namespace Go.Proofs.YtlgoaohklggcdaaGreatDoor
open Go.RowKit Go.Sort

set_option maxHeartbeats 4000000 in
set_option maxRecDepth 100000 in
theorem run_neR (x y : Td) (w : World) : (binOp .neq 52 (.agg #[.bool x.em, .int .i64 x.sa, .int .i64 x.pa, .int .i64 (x.h 0), .int .i64 (x.h 1), .int .i64 (x.h 2), .int .i64 (x.h 3), .int .i64 (x.h 4), .int .i64 (x.h 5), .int .i64 (x.h 6), .string x.co]) (.agg #[.bool y.em, .int .i64 y.sa, .int .i64 y.pa, .int .i64 (y.h 0), .int .i64 (y.h 1), .int .i64 (y.h 2), .int .i64 (y.h 3), .int .i64 (y.h 4), .int .i64 (y.h 5), .int .i64 (y.h 6), .string y.co])).run Tryz.prog w = .ok (.bool (!eqTd x y)) w := by
  have hw := eqW7 x.h y.h
  unfold eqTd
  generalize eq7 x.h y.h = b at hw ⊢
  by_cases h0 : x.em = y.em <;> by_cases h1 : x.sa = y.sa <;> by_cases h2 : x.pa = y.pa <;> by_cases h10 : x.co.toList = y.co.toList <;> cases b <;> go_simp
set_option maxHeartbeats 3000000 in
set_option maxRecDepth 100000 in
theorem lw_TermsSpans (l : List Fa) (A : Option Addr) (ca : Nat) (pe F U : Int) (w : World) (hl : l.length ≤ 9223372036854775807) (fl : ∀ f ∈ l, FitW f) (hL : SlF w A l) (hF : -9223372036854775808 ≤ F ∧ F ≤ 9223372036854775807) (hU : -9223372036854775808 ≤ U ∧ U ≤ 9223372036854775807) (hT : Tb w) (hC : Tab w) :
    Calls Tryz.prog 4 #[.slice A l.length ca, .int .u32 pe, .agg #[.int .i64 F, .int .i64 U]] w fun e w' => e = .returned (.bool true) ∧ Below w.heap.size w w' := by
  have HAW : Hid (∀ W, Below w.heap.size w W → Calls Tryz.prog 16 #[] W fun e w' => e = .returned (.bool true) ∧ Below W.heap.size W w') := Lib.hid fun W hW => la_awake16 W (hT.below hW) (tabBel hC hW)
  obtain ⟨sb, hsb⟩ : ∃ z, w.heap.size = z := ⟨_, rfl⟩
  obtain ⟨w2, hw2⟩ : ∃ z, w.alloc (.cells #[.int .i64 F, .int .i64 U] 31) = z := ⟨_, rfl⟩
  have hk2 : Bk sb 31 #[.int .i64 F, .int .i64 U] w2 := by rw [← hw2, ← hsb]; exact Bk.new _ _ _
  have hb2 : Below w.heap.size w w2 := by rw [← hw2]; exact bAlloc _ _
  have HB2 := Lib.hid hb2
  have HK2 := Lib.hid hk2
  have HC2 : Hid (Tab w2) := Lib.hid (tabBel hC hb2)
  by_cases h40 : (40 : Int) < (l.length : Int)
  · clear hsb hw2 hk2 hb2 hL hT hC fl HK2 HC2
    go_enter Tryz.func4, Tryz.ntmps4
    go_wp2_with fail
    refine (HAW.out _ (bAlloc _ _)).mono ?_
    rintro e w3 ⟨rfl, hb3⟩
    have HF := Lib.hid (bTrans (bAlloc w (.cells #[.int .i64 F, .int .i64 U] 31)) hb3)
    clear hb3
    go_wp2
    go_ret
    exact ⟨rfl, HF.out⟩
  have HTD : Hid (Calls Tryz.prog 17 #[.slice A l.length ca] w2 fun e w' => (∃ A2, e = .returned (.agg #[.slice A2 (tellL [] l).length (tellL [] l).length]) ∧ SlF w' A2 (tellL [] l)) ∧ Below w2.heap.size w2 w') := Lib.hid (la_told16 l A ca w2 (by omega) fl (hL.below hb2) (hT.below hb2))
  obtain ⟨T, hTT⟩ : ∃ T, tellL [] l = T := ⟨_, rfl⟩
  have hTl : T.length ≤ 40 := by rw [← hTT]; have := told_len l; omega
  have HTX : Hid (∀ f ∈ T, f.tx.size ≤ 1000000) := Lib.hid (by rw [← hTT]; exact told_tx fl)
  rw [hTT] at HTD
  obtain ⟨X, hX⟩ : ∃ X, lsOf T pe = X := ⟨_, rfl⟩
  have HXE := Lib.hid hX
  have HXL : Hid (∀ i, i < 5 → (X.at_ i).length ≤ 1000000) := Lib.hid fun i hi => by rw [← hX]; have := lsOf_len T pe i hi; omega
  have HXT : Hid (∀ x ∈ X.d, x.2.tx.size ≤ 1000000) := Lib.hid (by rw [← hX]; exact lsOf_tx HTX.out)
  have HE := Lib.hid (And.intro hsb hw2)
  clear hsb hw2 hk2 hb2 hL hT hC fl hTT hX
  go_enter Tryz.func4, Tryz.ntmps4
  go_upto_region 1 with fail
  rw [HE.out.1, HE.out.2]
  clear HE
  go_wp2_with fail
  refine HTD.out.mono ?_
  rintro e w3 ⟨⟨AV, rfl, hs3⟩, hb3⟩
  obtain ⟨vb, hvb⟩ : ∃ z, w3.heap.size = z := ⟨_, rfl⟩
  obtain ⟨w4, hw4⟩ : ∃ z, w3.alloc (.cells #[.slice AV T.length T.length] 27) = z := ⟨_, rfl⟩
  have hb4 : Below w3.heap.size w3 w4 := by rw [← hw4]; exact bAlloc _ _
  have HV4 : Hid (Bk vb 27 #[.slice AV T.length T.length] w4) := Lib.hid (by rw [← hw4, ← hvb]; exact Bk.new _ _ _)
  have HB4 : Hid (Below w2.heap.size w2 w4) := Lib.hid (bTrans hb3 hb4)
  have HS4 : Hid (SlF w4 AV T) := Lib.hid (hs3.below hb4)
  have HP4 : Hid (Bk sb 31 #[.int .i64 F, .int .i64 U] w4) := Lib.hid (bk_bel HK2.out HB4.out)
  obtain ⟨R, hR⟩ : ∃ R, ofL X F U = R := ⟨_, rfl⟩
  obtain ⟨E, hE⟩ : ∃ E, ofE F U = E := ⟨_, rfl⟩
  have HRE := Lib.hid (And.intro hR hE)
  have HOF : Hid (Calls Tryz.prog 19 #[.agg #[.slice AV T.length T.length], .int .u32 pe, .agg #[.int .i64 F, .int .i64 U]] w4 fun e w' => ∃ A c, e = .returned (.tuple #[.slice A R.length c, .int .i64 E]) ∧ Sl (encO X) 13 w' w'.heap.size A R ∧ Below w4.heap.size w4 w') := Lib.hid (by
    have h := tm_Of T AV T.length pe F U w4 (by omega) HS4.out HTX.out (by omega) (by omega) (tabBel HC2.out HB4.out)
    rw [HXE.out, hR, hE] at h
    refine h.mono fun e w' ⟨⟨A, c, h1, h2⟩, h3⟩ => ?_
    obtain ⟨A', c', e2, _, h4⟩ := own_sl (encO_len X) h2
    injection e2 with e2 _ _
    subst e2
    exact ⟨_, c, h1, h4, h3⟩)
  have HE := Lib.hid (And.intro hvb hw4)
  clear hvb hw4 hb3 hb4 hs3 HTD hR hE
  go_upto_region 4 with fail
  rw [HE.out.1, HE.out.2]
  clear HE
  have C0 : w4.cell? ⟨vb, 0, none⟩ = some (.slice AV T.length T.length) := HV4.out.cell 0
  have C1 : w4.cell? ⟨sb, 0, none⟩ = some (.int .i64 F) := HP4.out.cell 0
  have C2 : w4.cell? ⟨sb, 1, none⟩ = some (.int .i64 U) := HP4.out.cell 1
  go_wp2_with fail
  refine HOF.out.mono ?_
  rintro e w5 ⟨Ag, cg, rfl, hg5, hb5⟩
  have HG5 := Lib.hid hg5
  have HV5 := Lib.hid (bk_bel HV4.out hb5)
  have HP5 := Lib.hid (bk_bel HP4.out hb5)
  have HS5 := Lib.hid (HS4.out.below hb5)
  have HBW5 : Hid (Below w.heap.size w w5) := Lib.hid (bTrans HB2.out (bTrans HB4.out hb5))
  clear hg5 hb5 HOF C0 C1 C2 HB2 HK2 HC2 HB4 HV4 HP4 HS4
  have C0 : w5.cell? ⟨vb, 0, none⟩ = some (.slice AV T.length T.length) := HV5.out.cell 0
  have C1 : w5.cell? ⟨sb, 0, none⟩ = some (.int .i64 F) := HP5.out.cell 0
  have C2 : w5.cell? ⟨sb, 1, none⟩ = some (.int .i64 U) := HP5.out.cell 1
  by_cases hTF : U ≤ F
  · obtain rfl : R = [] := by rw [← HRE.out.1]; exact if_pos hTF
    obtain rfl : E = 0 := by rw [← HRE.out.2]; exact if_pos hTF
    clear HRE HG5
    go_wp2_with fail
    refine (HAW.out _ HBW5.out).mono ?_
    rintro e w9 ⟨rfl, hb9⟩
    have HF := Lib.hid (bTrans HBW5.out hb9)
    clear hb9
    go_wp2
    go_ret
    exact ⟨rfl, HF.out⟩
  by_cases hI : ¬ (-25567 ≤ F ∧ U ≤ 84006)
  · obtain rfl : R = [] := by rw [← HRE.out.1]; exact (of_out (by omega) hI).1
    obtain rfl : E = 24 := by rw [← HRE.out.2]; exact (of_out (X := X) (by omega) hI).2
    clear HRE HG5
    by_cases hF5 : F < -25567
    · go_wp2_with fail
      refine (HAW.out _ HBW5.out).mono ?_
      rintro e w9 ⟨rfl, hb9⟩
      have HF := Lib.hid (bTrans HBW5.out hb9)
      clear hb9
      go_wp2
      go_ret
      exact ⟨rfl, HF.out⟩
    · have hU5 : 84006 < U := by omega
      go_wp2_with fail
      refine (HAW.out _ HBW5.out).mono ?_
      rintro e w9 ⟨rfl, hb9⟩
      have HF := Lib.hid (bTrans HBW5.out hb9)
      clear hb9
      go_wp2
      go_ret
      exact ⟨rfl, HF.out⟩
  have hF5 : ¬ F < -25567 := by omega
  have hU5 : ¬ 84006 < U := by omega
  have hFU : F < U := by omega
  obtain rfl : E = 0 := by rw [← HRE.out.2]; exact (of_in (X := X) hFU (by omega)).2
  have hRR : runsOf (eT X) F U = R := by rw [← HRE.out.1]; exact (of_in hFU (by omega)).1.symm
  have HRU : Hid (Runs (eT X) U F R) := Lib.hid (by rw [← hRR]; exact runsOf_runs (eT_eqv X) (by omega))
  have hRl : R.length ≤ 200000 := by
    rw [← hRR]
    have h1 := mrg_len (eT X) (dayP F (U - F).toNat) []
    rw [dayP_len] at h1
    simp only [List.length_nil] at h1
    show ((dayP F (U - F).toNat).foldl (mrgS (eT X)) []).length ≤ 200000
    omega
  have HFA : Hid (Calls Tryz.prog 21 #[.agg #[.slice AV T.length T.length], .int .u32 pe] w5 fun e w' => ∃ V : Nat → Value, e = .returned (.agg #[V 0, V 1, V 2, V 3, V 4]) ∧ (∀ i, i < 5 → ∃ A c, V i = .slice A (X.at_ i).length c ∧ Sl encR 5 w' w'.heap.size A (X.at_ i)) ∧ Below w5.heap.size w5 w') := Lib.hid (by
    have h := la_facts T AV T.length pe w5 (by omega) HS5.out
    rw [HXE.out] at h
    exact h)
  clear hRR HRE hI HS5
  go_wp2_with fail
  refine HFA.out.mono ?_
  rintro e w6 ⟨V, rfl, hV, hb6⟩
  obtain ⟨A0, n0, c0, e0⟩ : ∃ A n c, V 0 = .slice A n c := by obtain ⟨A, c, h, _⟩ := hV 0 (by omega); exact ⟨A, _, c, h⟩
  obtain ⟨A1, n1, c1, e1⟩ : ∃ A n c, V 1 = .slice A n c := by obtain ⟨A, c, h, _⟩ := hV 1 (by omega); exact ⟨A, _, c, h⟩
  obtain ⟨A2, n2, c2, e2⟩ : ∃ A n c, V 2 = .slice A n c := by obtain ⟨A, c, h, _⟩ := hV 2 (by omega); exact ⟨A, _, c, h⟩
  obtain ⟨A3, n3, c3, e3⟩ : ∃ A n c, V 3 = .slice A n c := by obtain ⟨A, c, h, _⟩ := hV 3 (by omega); exact ⟨A, _, c, h⟩
  obtain ⟨A4, n4, c4, e4⟩ : ∃ A n c, V 4 = .slice A n c := by obtain ⟨A, c, h, _⟩ := hV 4 (by omega); exact ⟨A, _, c, h⟩
  obtain ⟨fb, hfb⟩ : ∃ z, w6.heap.size = z := ⟨_, rfl⟩
  obtain ⟨w7, hw7⟩ : ∃ z, w6.alloc (.cells #[.slice A0 n0 c0, .slice A1 n1 c1, .slice A2 n2 c2, .slice A3 n3 c3, .slice A4 n4 c4] 42) = z := ⟨_, rfl⟩
  have hb7 : Below w6.heap.size w6 w7 := by rw [← hw7]; exact bAlloc _ _
  have HF7 : Hid (Bk fb 42 #[.slice A0 n0 c0, .slice A1 n1 c1, .slice A2 n2 c2, .slice A3 n3 c3, .slice A4 n4 c4] w7) := Lib.hid (by rw [← hw7, ← hfb]; exact Bk.new _ _ _)
  have hb67 : Below w5.heap.size w5 w7 := bTrans hb6 hb7
  have HG7 : Hid (Sl (encO X) 13 w7 w7.heap.size Ag R) := Lib.hid (sl_bel HG5.out hb67)
  have HP7 := Lib.hid (bk_bel HP5.out hb67)
  have HBW : Hid (Below w.heap.size w w7) := Lib.hid (bTrans HBW5.out hb67)
  have HAT : Hid (∀ d W, Below w7.heap.size w7 W → Calls Tryz.prog 23 #[.agg #[.slice A0 n0 c0, .slice A1 n1 c1, .slice A2 n2 c2, .slice A3 n3 c3, .slice A4 n4 c4], .int .i64 d] W fun e w' => e = .returned (.agg (rtC (onX X d))) ∧ Below W.heap.size W w') := Lib.hid fun d W hW => by
    have h := r16_At X V d W HXL.out HXT.out (fun i hi => by
      obtain ⟨A, c, h1, h2⟩ := hV i hi
      exact ⟨A, c, h1, sl_bel h2 (bTrans hb7 hW)⟩)
    rw [e0, e1, e2, e3, e4] at h
    exact h
  have HE := Lib.hid (And.intro hfb hw7)
  have HVE := Lib.hid (And.intro e0 (And.intro e1 (And.intro e2 (And.intro e3 e4))))
  clear hfb hw7 hb6 hb7 hb67 hV HFA HG5 HV5 HP5 HBW5 HXL HXT HXE HTX C0 C1 C2 e0 e1 e2 e3 e4
  rw [HVE.out.1, HVE.out.2.1, HVE.out.2.2.1, HVE.out.2.2.2.1, HVE.out.2.2.2.2]
  clear HVE
  go_upto_region 10 with fail
  rw [HE.out.1, HE.out.2]
  clear HE
  have C1 : w7.cell? ⟨sb, 0, none⟩ = some (.int .i64 F) := HP7.out.cell 0
  go_wp2
  clear C1
  have HB0 : Hid (begS U R 0 = F) := Lib.hid HRU.out.beg0
  go_loopw [11, 12] (fun ev iv wr => ∃ k : Nat, k ≤ R.length ∧ iv = .int .i64 k ∧ ev = .int .i64 (begS U R k) ∧ Hid (Below w7.heap.size w7 wr)) (fun _ iv _ => R.length - (intOf iv).toNat)
  case atStart => exact ⟨0, Nat.zero_le _, rfl, by rw [HB0.out], Lib.hid (Below.refl _ _)⟩
  case round =>
    obtain ⟨k, hk, rfl, rfl, HB⟩ := hrel
    by_cases hlt : k < R.length
    · obtain ⟨q, hq1, hq2, hq3, hq4, hq5, hq6, hq7, hq8, hq9⟩ := HRU.out.at_ (eT_eqv X) k hlt
      obtain ⟨g1, o1, rfl, _, hat1⟩ := HG7.out (by intro h; simp [h] at hlt)
      obtain ⟨ya, yb⟩ := q
      simp only at hq2 hq3 hq4 hq5 hq6 hq7 hq8 hq9
      obtain ⟨td, htd⟩ : ∃ td, onX X ya = td := ⟨_, rfl⟩
      have henc : encO X (ya, yb) = (tdC { td with fr := ya, «to» := yb }).toList := by rw [← htd]; rfl
      obtain ⟨K0, K1, K2, K3, K4, K5, K6, K7, K8, K9, K10, K11, K12⟩ : wr.cell? ⟨g1, o1 + k * 13, none⟩ = some (.int .i64 ya) ∧ wr.cell? ⟨g1, o1 + k * 13 + 1, none⟩ = some (.int .i64 yb) ∧ wr.cell? ⟨g1, o1 + k * 13 + 2, none⟩ = some (.bool td.em) ∧ wr.cell? ⟨g1, o1 + k * 13 + 3, none⟩ = some (.int .i64 td.sa) ∧ wr.cell? ⟨g1, o1 + k * 13 + 4, none⟩ = some (.int .i64 td.pa) ∧ wr.cell? ⟨g1, o1 + k * 13 + 5, none⟩ = some (.int .i64 (td.h 0)) ∧ wr.cell? ⟨g1, o1 + k * 13 + 6, none⟩ = some (.int .i64 (td.h 1)) ∧ wr.cell? ⟨g1, o1 + k * 13 + 7, none⟩ = some (.int .i64 (td.h 2)) ∧ wr.cell? ⟨g1, o1 + k * 13 + 8, none⟩ = some (.int .i64 (td.h 3)) ∧ wr.cell? ⟨g1, o1 + k * 13 + 9, none⟩ = some (.int .i64 (td.h 4)) ∧ wr.cell? ⟨g1, o1 + k * 13 + 10, none⟩ = some (.int .i64 (td.h 5)) ∧ wr.cell? ⟨g1, o1 + k * 13 + 11, none⟩ = some (.int .i64 (td.h 6)) ∧ wr.cell? ⟨g1, o1 + k * 13 + 12, none⟩ = some (.string td.co) := cell13 hq1 henc (fun i x hx j u hu => bCell HB.out (hat1 i x hx j u hu))
      have hlt2 : (k : Int) < (R.length : Int) := by omega
      have HNB : Hid (begS U R (k + 1) = yb) := Lib.hid hq4.symm
      have HKE := Lib.hid hq2
      have hab : -25567 ≤ ya ∧ ya < yb ∧ yb ≤ 84006 := by omega
      have HA1 : Hid (∀ W, Below w7.heap.size w7 W → Calls Tryz.prog 23 #[.agg #[.slice A0 n0 c0, .slice A1 n1 c1, .slice A2 n2 c2, .slice A3 n3 c3, .slice A4 n4 c4], .int .i64 ya] W fun e w' => e = .returned (.agg #[.bool td.em, .int .i64 td.sa, .int .i64 td.pa, .int .i64 (td.h 0), .int .i64 (td.h 1), .int .i64 (td.h 2), .int .i64 (td.h 3), .int .i64 (td.h 4), .int .i64 (td.h 5), .int .i64 (td.h 6), .string td.co]) ∧ Below W.heap.size W w') := Lib.hid fun W hW => by
        have h := HAT.out ya W hW
        rw [htd] at h
        exact h
      obtain ⟨t2, ht2⟩ : ∃ t, onX X (yb - 1) = t := ⟨_, rfl⟩
      have HA2 : Hid (∀ W, Below w7.heap.size w7 W → Calls Tryz.prog 23 #[.agg #[.slice A0 n0 c0, .slice A1 n1 c1, .slice A2 n2 c2, .slice A3 n3 c3, .slice A4 n4 c4], .int .i64 (yb - 1)] W fun e w' => e = .returned (.agg #[.bool t2.em, .int .i64 t2.sa, .int .i64 t2.pa, .int .i64 (t2.h 0), .int .i64 (t2.h 1), .int .i64 (t2.h 2), .int .i64 (t2.h 3), .int .i64 (t2.h 4), .int .i64 (t2.h 5), .int .i64 (t2.h 6), .string t2.co]) ∧ Below W.heap.size W w') := Lib.hid fun W hW => by
        have h := HAT.out (yb - 1) W hW
        rw [ht2] at h
        exact h
      have HNE : Hid (∀ W, (binOp .neq 52 (.agg #[.bool td.em, .int .i64 td.sa, .int .i64 td.pa, .int .i64 (td.h 0), .int .i64 (td.h 1), .int .i64 (td.h 2), .int .i64 (td.h 3), .int .i64 (td.h 4), .int .i64 (td.h 5), .int .i64 (td.h 6), .string td.co]) (.agg #[.bool t2.em, .int .i64 t2.sa, .int .i64 t2.pa, .int .i64 (t2.h 0), .int .i64 (t2.h 1), .int .i64 (t2.h 2), .int .i64 (t2.h 3), .int .i64 (t2.h 4), .int .i64 (t2.h 5), .int .i64 (t2.h 6), .string t2.co])).run Tryz.prog W = .ok (.bool false) W) := Lib.hid fun W => by
        rw [run_neR td t2 W]
        have h1 := hq5 (yb - 1) (by omega) (by omega)
        unfold eT at h1
        rw [htd, ht2, ← eqTd_key] at h1
        rw [h1]
        rfl
      obtain ⟨t3, ht3⟩ : ∃ t, onX X (ya - 1) = t := ⟨_, rfl⟩
      have HA3 : Hid (∀ W, Below w7.heap.size w7 W → Calls Tryz.prog 23 #[.agg #[.slice A0 n0 c0, .slice A1 n1 c1, .slice A2 n2 c2, .slice A3 n3 c3, .slice A4 n4 c4], .int .i64 (ya - 1)] W fun e w' => e = .returned (.agg #[.bool t3.em, .int .i64 t3.sa, .int .i64 t3.pa, .int .i64 (t3.h 0), .int .i64 (t3.h 1), .int .i64 (t3.h 2), .int .i64 (t3.h 3), .int .i64 (t3.h 4), .int .i64 (t3.h 5), .int .i64 (t3.h 6), .string t3.co]) ∧ Below W.heap.size W w') := Lib.hid fun W hW => by
        have h := HAT.out (ya - 1) W hW
        rw [ht3] at h
        exact h
      have HNQ : Hid (0 < k → ∀ W, (binOp .eql 52 (.agg #[.bool t3.em, .int .i64 t3.sa, .int .i64 t3.pa, .int .i64 (t3.h 0), .int .i64 (t3.h 1), .int .i64 (t3.h 2), .int .i64 (t3.h 3), .int .i64 (t3.h 4), .int .i64 (t3.h 5), .int .i64 (t3.h 6), .string t3.co]) (.agg #[.bool td.em, .int .i64 td.sa, .int .i64 td.pa, .int .i64 (td.h 0), .int .i64 (td.h 1), .int .i64 (td.h 2), .int .i64 (td.h 3), .int .i64 (td.h 4), .int .i64 (td.h 5), .int .i64 (td.h 6), .string td.co])).run Tryz.prog W = .ok (.bool false) W) := Lib.hid fun hk0 W => by
        rw [run_eqR t3 td W]
        have h1 := hq6 hk0
        unfold eT at h1
        rw [htd, ht3, ← eqTd_key] at h1
        rw [h1]
      obtain ⟨tb, htb⟩ : ∃ z, wr.heap.size = z := ⟨_, rfl⟩
      obtain ⟨w8, hw8⟩ : ∃ z, wr.alloc (.cells #[.int .i64 ya, .int .i64 yb, .bool td.em, .int .i64 td.sa, .int .i64 td.pa, .int .i64 (td.h 0), .int .i64 (td.h 1), .int .i64 (td.h 2), .int .i64 (td.h 3), .int .i64 (td.h 4), .int .i64 (td.h 5), .int .i64 (td.h 6), .string td.co] 50) = z := ⟨_, rfl⟩
      have HT8 : Hid (Bk tb 50 #[.int .i64 ya, .int .i64 yb, .bool td.em, .int .i64 td.sa, .int .i64 td.pa, .int .i64 (td.h 0), .int .i64 (td.h 1), .int .i64 (td.h 2), .int .i64 (td.h 3), .int .i64 (td.h 4), .int .i64 (td.h 5), .int .i64 (td.h 6), .string td.co] w8) := Lib.hid (by rw [← hw8, ← htb]; exact Bk.new _ _ _)
      have hb8 : Below wr.heap.size wr w8 := by rw [← hw8]; exact bAlloc _ _
      have HB8 : Hid (Below w7.heap.size w7 w8) := Lib.hid (bTrans HB.out hb8)
      have HLK : Hid (∀ W, Calls Tryz.prog 22 #[.agg #[.int .i64 ya, .int .i64 yb, .bool td.em, .int .i64 td.sa, .int .i64 td.pa, .int .i64 (td.h 0), .int .i64 (td.h 1), .int .i64 (td.h 2), .int .i64 (td.h 3), .int .i64 (td.h 4), .int .i64 (td.h 5), .int .i64 (td.h 6), .string td.co], .agg #[.int .i64 ya, .int .i64 yb, .bool td.em, .int .i64 td.sa, .int .i64 td.pa, .int .i64 (td.h 0), .int .i64 (td.h 1), .int .i64 (td.h 2), .int .i64 (td.h 3), .int .i64 (td.h 4), .int .i64 (td.h 5), .int .i64 (td.h 6), .string td.co]] W fun e w' => e = .returned (.bool true) ∧ Below W.heap.size W w') := Lib.hid fun W => la_like { td with fr := ya, «to» := yb } W
      have HE := Lib.hid (And.intro htb hw8)
      clear htb hw8 hb8 hat1 hq1 hq2 hq3 hq4 hq5 hq6 hq7 hq8 hq9 htd henc ht2 ht3 HAT
      rw [← HKE.out]
      go_upto_region 15 with fail
      rw [HE.out.1, HE.out.2]
      clear HE K0 K1 K2 K3 K4 K5 K6 K7 K8 K9 K10 K11 K12
      have HK : Hid (∀ W, Below w8.heap.size w8 W → (W.cell? ⟨fb, 0, none⟩ = some (.slice A0 n0 c0) ∧ W.cell? ⟨fb, 1, none⟩ = some (.slice A1 n1 c1) ∧ W.cell? ⟨fb, 2, none⟩ = some (.slice A2 n2 c2) ∧ W.cell? ⟨fb, 3, none⟩ = some (.slice A3 n3 c3) ∧ W.cell? ⟨fb, 4, none⟩ = some (.slice A4 n4 c4)) ∧ W.cell? ⟨tb, 0, none⟩ = some (.int .i64 ya) ∧ W.cell? ⟨tb, 1, none⟩ = some (.int .i64 yb) ∧ W.cell? ⟨tb, 2, none⟩ = some (.bool td.em) ∧ W.cell? ⟨tb, 3, none⟩ = some (.int .i64 td.sa) ∧ W.cell? ⟨tb, 4, none⟩ = some (.int .i64 td.pa) ∧ W.cell? ⟨tb, 5, none⟩ = some (.int .i64 (td.h 0)) ∧ W.cell? ⟨tb, 6, none⟩ = some (.int .i64 (td.h 1)) ∧ W.cell? ⟨tb, 7, none⟩ = some (.int .i64 (td.h 2)) ∧ W.cell? ⟨tb, 8, none⟩ = some (.int .i64 (td.h 3)) ∧ W.cell? ⟨tb, 9, none⟩ = some (.int .i64 (td.h 4)) ∧ W.cell? ⟨tb, 10, none⟩ = some (.int .i64 (td.h 5)) ∧ W.cell? ⟨tb, 11, none⟩ = some (.int .i64 (td.h 6)) ∧ W.cell? ⟨tb, 12, none⟩ = some (.string td.co)) := Lib.hid fun W hW => by
        have hz := bTrans HB8.out hW
        have c := HF7.out
        have t := HT8.out
        exact ⟨⟨bCell hz (c.cell 0), bCell hz (c.cell 1), bCell hz (c.cell 2), bCell hz (c.cell 3), bCell hz (c.cell 4)⟩, bCell hW (t.cell 0), bCell hW (t.cell 1), bCell hW (t.cell 2), bCell hW (t.cell 3), bCell hW (t.cell 4), bCell hW (t.cell 5), bCell hW (t.cell 6), bCell hW (t.cell 7), bCell hW (t.cell 8), bCell hW (t.cell 9), bCell hW (t.cell 10), bCell hW (t.cell 11), bCell hW (t.cell 12)⟩
      have HA1 : Hid (∀ W, Below w8.heap.size w8 W → _) := Lib.hid fun W hW => HA1.out W (bTrans HB8.out hW)
      have HA2 : Hid (∀ W, Below w8.heap.size w8 W → _) := Lib.hid fun W hW => HA2.out W (bTrans HB8.out hW)
      have HA3 : Hid (∀ W, Below w8.heap.size w8 W → _) := Lib.hid fun W hW => HA3.out W (bTrans HB8.out hW)
      go_cut [109] from 75 to 109 (fun q wx => q = .bool false ∧ Hid (Below w8.heap.size w8 wx))
      case first =>
        refine wp_region_use (SPS [(10, Sp.val (.pointer (some ⟨fb, 0, none⟩))), (11, Sp.val (.int .i64 ya)), (13, Sp.val (.pointer (some ⟨tb, 0, none⟩))), (75, Sp.val (.pointer (some ⟨tb, 0, none⟩))), (76, Sp.val (.pointer (some ⟨tb, 0, none⟩))), (77, Sp.val (.int .i64 ya)), (79, Sp.val (.bool false)), (81, Sp.val (.pointer (some ⟨tb, 0, none⟩))), (82, Sp.val (.pointer (some ⟨tb, 1, none⟩))), (83, Sp.val (.int .i64 yb)), (85, Sp.val (.bool false)), (88, Sp.val (.agg #[.int .i64 ya, .int .i64 yb, .bool td.em, .int .i64 td.sa, .int .i64 td.pa, .int .i64 (td.h 0), .int .i64 (td.h 1), .int .i64 (td.h 2), .int .i64 (td.h 3), .int .i64 (td.h 4), .int .i64 (td.h 5), .int .i64 (td.h 6), .string td.co])), (89, Sp.val (.pointer (some ⟨tb, 0, none⟩))), (90, Sp.val (.agg #[.int .i64 ya, .int .i64 yb])), (91, Sp.val (.agg #[.slice A0 n0 c0, .slice A1 n1 c1, .slice A2 n2 c2, .slice A3 n3 c3, .slice A4 n4 c4])), (93, Sp.val (.agg #[.bool td.em, .int .i64 td.sa, .int .i64 td.pa, .int .i64 (td.h 0), .int .i64 (td.h 1), .int .i64 (td.h 2), .int .i64 (td.h 3), .int .i64 (td.h 4), .int .i64 (td.h 5), .int .i64 (td.h 6), .string td.co])), (94, Sp.val (.agg #[.int .i64 ya, .int .i64 yb, .bool td.em, .int .i64 td.sa, .int .i64 td.pa, .int .i64 (td.h 0), .int .i64 (td.h 1), .int .i64 (td.h 2), .int .i64 (td.h 3), .int .i64 (td.h 4), .int .i64 (td.h 5), .int .i64 (td.h 6), .string td.co])), (95, Sp.val (.bool true)), (96, Sp.val (.bool false)), (99, Sp.val (.agg #[.slice A0 n0 c0, .slice A1 n1 c1, .slice A2 n2 c2, .slice A3 n3 c3, .slice A4 n4 c4])), (101, Sp.val (.agg #[.bool td.em, .int .i64 td.sa, .int .i64 td.pa, .int .i64 (td.h 0), .int .i64 (td.h 1), .int .i64 (td.h 2), .int .i64 (td.h 3), .int .i64 (td.h 4), .int .i64 (td.h 5), .int .i64 (td.h 6), .string td.co])), (102, Sp.val (.agg #[.slice A0 n0 c0, .slice A1 n1 c1, .slice A2 n2 c2, .slice A3 n3 c3, .slice A4 n4 c4])), (103, Sp.val (.pointer (some ⟨tb, 0, none⟩))), (104, Sp.val (.pointer (some ⟨tb, 1, none⟩))), (105, Sp.val (.int .i64 yb)), (106, Sp.val (.int .i64 (yb - 1))), (107, Sp.val (.agg #[.bool t2.em, .int .i64 t2.sa, .int .i64 t2.pa, .int .i64 (t2.h 0), .int .i64 (t2.h 1), .int .i64 (t2.h 2), .int .i64 (t2.h 3), .int .i64 (t2.h 4), .int .i64 (t2.h 5), .int .i64 (t2.h 6), .string t2.co])), (108, Sp.val (.bool false)), (78, Sp.val (.int .i64 ya)), (80, Sp.val (.bool false)), (84, Sp.val (.int .i64 ya)), (86, Sp.val (.bool false)), (87, Sp.val (.bool false)), (92, Sp.val (.int .i64 ya)), (97, Sp.val (.bool false)), (98, Sp.val (.bool false)), (100, Sp.val (.int .i64 ya)), (109, Sp.val (.bool false))]) [] [75, 76, 77, 78, 79, 80, 81, 82, 83, 84, 85, 86, 87, 88, 89, 90, 91, 92, 93, 94, 95, 96, 97, 98, 99, 100, 101, 102, 103, 104, 105, 106, 107, 108, 109] rfl (by rfl) (by kernel_rfl) (SPS.st _) (by rfl) ?_ (opsK_all ?_) ?_
        · exact sps_start (cons_all rfl (cons_all rfl (cons_all rfl (nil_all))))
        · refine opsK_cons (by
           exact use_s [] (opOk_run rfl (.inl rfl) (fun a W hW hsp => by
              have e13 : a.eval (.tmp 13) = .pointer (some ⟨tb, 0, none⟩) := (hsp 13 (by kernel_rfl)).get rfl
              refine ⟨.pointer (some ⟨tb, 0, none⟩), ?_, sps rfl rfl⟩
              unfold execOp
              simp only [e13]
              go_simp)) (by kernel_rfl) (by rfl)) ?_
          refine opsK_cons (by
           exact use_s [] (opOk_run rfl (.inl rfl) (fun a W hW hsp => by
              have e75 : a.eval (.tmp 75) = .pointer (some ⟨tb, 0, none⟩) := (hsp 75 (by kernel_rfl)).get rfl
              refine ⟨.pointer (some ⟨tb, 0, none⟩), ?_, sps rfl rfl⟩
              unfold execOp
              simp only [e75]
              go_simp)) (by kernel_rfl) (by rfl)) ?_
          refine opsK_cons (by
           exact use_s [] (opOk_load (p := ⟨tb, 0, none⟩) rfl rfl (.inl rfl) (by kernel_rfl) (fun _ _ h => h.get rfl) (fun W hW => by
              obtain ⟨⟨f0, f1, f2, f3, f4⟩, m0, m1, m2, m3, m4, m5, m6, m7, m8, m9, m10, m11, m12⟩ := HK.out _ hW
              exact ⟨.int .i64 ya, by go_simp, sps rfl rfl⟩)) (by kernel_rfl) (by rfl)) ?_
          refine opsK_cons (by
           exact use_s [] (opOk_move rfl rfl (.inl rfl) (by kernel_rfl) (fun _ _ h => sps rfl (h.get rfl))) (by kernel_rfl) (by rfl)) ?_
          refine opsK_cons (by
           exact use_s [] (opOk_run rfl (.inl rfl) (fun a W hW hsp => by
              have e77 : a.eval (.tmp 77) = .int .i64 ya := (hsp 77 (by kernel_rfl)).get rfl
              have e78 : a.eval (.tmp 78) = .int .i64 ya := (hsp 78 (by kernel_rfl)).get rfl
              refine ⟨.bool false, ?_, sps rfl rfl⟩
              unfold execOp
              simp only [e77, e78]
              go_simp)) (by kernel_rfl) (by rfl)) ?_
          refine opsK_cons (by
           exact use_s [] (opOk_move rfl rfl (.inl rfl) (by kernel_rfl) (fun _ _ h => sps rfl (h.get rfl))) (by kernel_rfl) (by rfl)) ?_
          refine opsK_cons (by
           exact use_s [] (opOk_run rfl (.inr ⟨5, 80, false, rfl, rfl, (by kernel_rfl), fun _ _ h => h.get rfl⟩) (fun a W hW hsp => by
              have e13 : a.eval (.tmp 13) = .pointer (some ⟨tb, 0, none⟩) := (hsp 13 (by kernel_rfl)).get rfl
              refine ⟨.pointer (some ⟨tb, 0, none⟩), ?_, sps rfl rfl⟩
              unfold execOp
              simp only [e13]
              go_simp)) (by kernel_rfl) (by rfl)) ?_
          refine opsK_cons (by
           exact use_s [] (opOk_run rfl (.inr ⟨5, 80, false, rfl, rfl, (by kernel_rfl), fun _ _ h => h.get rfl⟩) (fun a W hW hsp => by
              have e81 : a.eval (.tmp 81) = .pointer (some ⟨tb, 0, none⟩) := (hsp 81 (by kernel_rfl)).get rfl
              refine ⟨.pointer (some ⟨tb, 1, none⟩), ?_, sps rfl rfl⟩
              unfold execOp
              simp only [e81]
              go_simp)) (by kernel_rfl) (by rfl)) ?_
          refine opsK_cons (by
           exact use_s [] (opOk_load (p := ⟨tb, 1, none⟩) rfl rfl (.inr ⟨5, 80, false, rfl, rfl, (by kernel_rfl), fun _ _ h => h.get rfl⟩) (by kernel_rfl) (fun _ _ h => h.get rfl) (fun W hW => by
              obtain ⟨⟨f0, f1, f2, f3, f4⟩, m0, m1, m2, m3, m4, m5, m6, m7, m8, m9, m10, m11, m12⟩ := HK.out _ hW
              exact ⟨.int .i64 yb, by go_simp, sps rfl rfl⟩)) (by kernel_rfl) (by rfl)) ?_
          refine opsK_cons (by
           exact use_s [] (opOk_move rfl rfl (.inr ⟨5, 80, false, rfl, rfl, (by kernel_rfl), fun _ _ h => h.get rfl⟩) (by kernel_rfl) (fun _ _ h => sps rfl (h.get rfl))) (by kernel_rfl) (by rfl)) ?_
          refine opsK_cons (by
           exact use_s [] (opOk_run rfl (.inr ⟨5, 80, false, rfl, rfl, (by kernel_rfl), fun _ _ h => h.get rfl⟩) (fun a W hW hsp => by
              have e83 : a.eval (.tmp 83) = .int .i64 yb := (hsp 83 (by kernel_rfl)).get rfl
              have e84 : a.eval (.tmp 84) = .int .i64 ya := (hsp 84 (by kernel_rfl)).get rfl
              refine ⟨.bool false, ?_, sps rfl rfl⟩
              unfold execOp
              simp only [e83, e84]
              go_simp)) (by kernel_rfl) (by rfl)) ?_
          refine opsK_cons (by
           exact use_s [] (opOk_run rfl (.inl rfl) (fun a W hW hsp => by
              have e80 : a.eval (.tmp 80) = .bool false := (hsp 80 (by kernel_rfl)).get rfl
              have e85 : a.eval (.tmp 85) = .bool false := (hsp 85 (by kernel_rfl)).get rfl
              refine ⟨.bool false, ?_, sps rfl rfl⟩
              unfold execOp
              simp only [e80, e85]
              go_simp)) (by kernel_rfl) (by rfl)) ?_
          refine opsK_cons (by
           exact use_s [] (opOk_move rfl rfl (.inl rfl) (by kernel_rfl) (fun _ _ h => sps rfl (h.get rfl))) (by kernel_rfl) (by rfl)) ?_
          refine opsK_cons (by
           exact use_s [] (opOk_load (p := ⟨tb, 0, none⟩) rfl rfl (.inr ⟨12, 87, false, rfl, rfl, (by kernel_rfl), fun _ _ h => h.get rfl⟩) (by kernel_rfl) (fun _ _ h => h.get rfl) (fun W hW => by
              obtain ⟨⟨f0, f1, f2, f3, f4⟩, m0, m1, m2, m3, m4, m5, m6, m7, m8, m9, m10, m11, m12⟩ := HK.out _ hW
              exact ⟨.agg #[.int .i64 ya, .int .i64 yb, .bool td.em, .int .i64 td.sa, .int .i64 td.pa, .int .i64 (td.h 0), .int .i64 (td.h 1), .int .i64 (td.h 2), .int .i64 (td.h 3), .int .i64 (td.h 4), .int .i64 (td.h 5), .int .i64 (td.h 6), .string td.co], by go_simp, sps rfl rfl⟩)) (by kernel_rfl) (by rfl)) ?_
          refine opsK_cons (by
           exact use_s [] (opOk_run rfl (.inr ⟨12, 87, false, rfl, rfl, (by kernel_rfl), fun _ _ h => h.get rfl⟩) (fun a W hW hsp => by
              have e13 : a.eval (.tmp 13) = .pointer (some ⟨tb, 0, none⟩) := (hsp 13 (by kernel_rfl)).get rfl
              refine ⟨.pointer (some ⟨tb, 0, none⟩), ?_, sps rfl rfl⟩
              unfold execOp
              simp only [e13]
              go_simp)) (by kernel_rfl) (by rfl)) ?_
          refine opsK_cons (by
           exact use_s [] (opOk_load (p := ⟨tb, 0, none⟩) rfl rfl (.inr ⟨12, 87, false, rfl, rfl, (by kernel_rfl), fun _ _ h => h.get rfl⟩) (by kernel_rfl) (fun _ _ h => h.get rfl) (fun W hW => by
              obtain ⟨⟨f0, f1, f2, f3, f4⟩, m0, m1, m2, m3, m4, m5, m6, m7, m8, m9, m10, m11, m12⟩ := HK.out _ hW
              exact ⟨.agg #[.int .i64 ya, .int .i64 yb], by go_simp, sps rfl rfl⟩)) (by kernel_rfl) (by rfl)) ?_
          refine opsK_cons (by
           exact use_s [] (opOk_load (p := ⟨fb, 0, none⟩) rfl rfl (.inr ⟨12, 87, false, rfl, rfl, (by kernel_rfl), fun _ _ h => h.get rfl⟩) (by kernel_rfl) (fun _ _ h => h.get rfl) (fun W hW => by
              obtain ⟨⟨f0, f1, f2, f3, f4⟩, m0, m1, m2, m3, m4, m5, m6, m7, m8, m9, m10, m11, m12⟩ := HK.out _ hW
              exact ⟨.agg #[.slice A0 n0 c0, .slice A1 n1 c1, .slice A2 n2 c2, .slice A3 n3 c3, .slice A4 n4 c4], by go_simp, sps rfl rfl⟩)) (by kernel_rfl) (by rfl)) ?_
          refine opsK_cons (by
           exact use_s [] (opOk_move rfl rfl (.inr ⟨12, 87, false, rfl, rfl, (by kernel_rfl), fun _ _ h => h.get rfl⟩) (by kernel_rfl) (fun _ _ h => sps rfl (h.get rfl))) (by kernel_rfl) (by rfl)) ?_
          refine opsK_cons (by
           exact use_s [] (opOk_callg (fun a => #[a.eval (.tmp 91), a.eval (.tmp 92)]) rfl rfl (.inr ⟨12, 87, false, rfl, rfl, (by kernel_rfl), fun _ _ h => h.get rfl⟩) (fun a => by simp only [List.map_toArray, List.map_cons, List.map_nil] <;> rfl) (fun args W => by go_simp) (fun a W hW hsp => by
              have e91 : a.eval (.tmp 91) = .agg #[.slice A0 n0 c0, .slice A1 n1 c1, .slice A2 n2 c2, .slice A3 n3 c3, .slice A4 n4 c4] := (hsp 91 (by kernel_rfl)).get rfl
              have e92 : a.eval (.tmp 92) = .int .i64 ya := (hsp 92 (by kernel_rfl)).get rfl
              simp only [e91, e92]
              exact (HA1.out _ hW).mono fun e w' ⟨he, hb⟩ => ⟨_, he, hb, sps rfl rfl⟩)) (by kernel_rfl) (by rfl)) ?_
          refine opsK_cons (by
           exact use_s [] (opOk_run rfl (.inr ⟨12, 87, false, rfl, rfl, (by kernel_rfl), fun _ _ h => h.get rfl⟩) (fun a W hW hsp => by
              have e90 : a.eval (.tmp 90) = .agg #[.int .i64 ya, .int .i64 yb] := (hsp 90 (by kernel_rfl)).get rfl
              have e93 : a.eval (.tmp 93) = .agg #[.bool td.em, .int .i64 td.sa, .int .i64 td.pa, .int .i64 (td.h 0), .int .i64 (td.h 1), .int .i64 (td.h 2), .int .i64 (td.h 3), .int .i64 (td.h 4), .int .i64 (td.h 5), .int .i64 (td.h 6), .string td.co] := (hsp 93 (by kernel_rfl)).get rfl
              have q90 : a.tmps[90]?.getD undef = .agg #[.int .i64 ya, .int .i64 yb] := by rw [← Array.getD_eq_getD_getElem?]; exact e90
              have q93 : a.tmps[93]?.getD undef = .agg #[.bool td.em, .int .i64 td.sa, .int .i64 td.pa, .int .i64 (td.h 0), .int .i64 (td.h 1), .int .i64 (td.h 2), .int .i64 (td.h 3), .int .i64 (td.h 4), .int .i64 (td.h 5), .int .i64 (td.h 6), .string td.co] := by rw [← Array.getD_eq_getD_getElem?]; exact e93
              refine ⟨.agg #[.int .i64 ya, .int .i64 yb, .bool td.em, .int .i64 td.sa, .int .i64 td.pa, .int .i64 (td.h 0), .int .i64 (td.h 1), .int .i64 (td.h 2), .int .i64 (td.h 3), .int .i64 (td.h 4), .int .i64 (td.h 5), .int .i64 (td.h 6), .string td.co], ?_, sps rfl rfl⟩
              unfold execOp
              go_simp)) (by kernel_rfl) (by rfl)) ?_
          refine opsK_cons (by
           exact use_s [] (opOk_callg (fun a => #[a.eval (.tmp 88), a.eval (.tmp 94)]) rfl rfl (.inr ⟨12, 87, false, rfl, rfl, (by kernel_rfl), fun _ _ h => h.get rfl⟩) (fun a => by simp only [List.map_toArray, List.map_cons, List.map_nil] <;> rfl) (fun args W => by go_simp) (fun a W hW hsp => by
              have e88 : a.eval (.tmp 88) = .agg #[.int .i64 ya, .int .i64 yb, .bool td.em, .int .i64 td.sa, .int .i64 td.pa, .int .i64 (td.h 0), .int .i64 (td.h 1), .int .i64 (td.h 2), .int .i64 (td.h 3), .int .i64 (td.h 4), .int .i64 (td.h 5), .int .i64 (td.h 6), .string td.co] := (hsp 88 (by kernel_rfl)).get rfl
              have e94 : a.eval (.tmp 94) = .agg #[.int .i64 ya, .int .i64 yb, .bool td.em, .int .i64 td.sa, .int .i64 td.pa, .int .i64 (td.h 0), .int .i64 (td.h 1), .int .i64 (td.h 2), .int .i64 (td.h 3), .int .i64 (td.h 4), .int .i64 (td.h 5), .int .i64 (td.h 6), .string td.co] := (hsp 94 (by kernel_rfl)).get rfl
              simp only [e88, e94]
              exact (HLK.out _).mono fun e w' ⟨he, hb⟩ => ⟨_, he, hb, sps rfl rfl⟩)) (by kernel_rfl) (by rfl)) ?_
          refine opsK_cons (by
           exact use_s [] (opOk_run rfl (.inr ⟨12, 87, false, rfl, rfl, (by kernel_rfl), fun _ _ h => h.get rfl⟩) (fun a W hW hsp => by
              have e95 : a.eval (.tmp 95) = .bool true := (hsp 95 (by kernel_rfl)).get rfl
              refine ⟨.bool false, ?_, sps rfl rfl⟩
              unfold execOp
              simp only [e95]
              go_simp)) (by kernel_rfl) (by rfl)) ?_
          refine opsK_cons (by
           exact use_s [] (opOk_run rfl (.inl rfl) (fun a W hW hsp => by
              have e87 : a.eval (.tmp 87) = .bool false := (hsp 87 (by kernel_rfl)).get rfl
              have e96 : a.eval (.tmp 96) = .bool false := (hsp 96 (by kernel_rfl)).get rfl
              refine ⟨.bool false, ?_, sps rfl rfl⟩
              unfold execOp
              simp only [e87, e96]
              go_simp)) (by kernel_rfl) (by rfl)) ?_
          refine opsK_cons (by
           exact use_s [] (opOk_move rfl rfl (.inl rfl) (by kernel_rfl) (fun _ _ h => sps rfl (h.get rfl))) (by kernel_rfl) (by rfl)) ?_
          refine opsK_cons (by
           exact use_s [] (opOk_load (p := ⟨fb, 0, none⟩) rfl rfl (.inr ⟨23, 98, false, rfl, rfl, (by kernel_rfl), fun _ _ h => h.get rfl⟩) (by kernel_rfl) (fun _ _ h => h.get rfl) (fun W hW => by
              obtain ⟨⟨f0, f1, f2, f3, f4⟩, m0, m1, m2, m3, m4, m5, m6, m7, m8, m9, m10, m11, m12⟩ := HK.out _ hW
              exact ⟨.agg #[.slice A0 n0 c0, .slice A1 n1 c1, .slice A2 n2 c2, .slice A3 n3 c3, .slice A4 n4 c4], by go_simp, sps rfl rfl⟩)) (by kernel_rfl) (by rfl)) ?_
          refine opsK_cons (by
           exact use_s [] (opOk_move rfl rfl (.inr ⟨23, 98, false, rfl, rfl, (by kernel_rfl), fun _ _ h => h.get rfl⟩) (by kernel_rfl) (fun _ _ h => sps rfl (h.get rfl))) (by kernel_rfl) (by rfl)) ?_
          refine opsK_cons (by
           exact use_s [] (opOk_callg (fun a => #[a.eval (.tmp 99), a.eval (.tmp 100)]) rfl rfl (.inr ⟨23, 98, false, rfl, rfl, (by kernel_rfl), fun _ _ h => h.get rfl⟩) (fun a => by simp only [List.map_toArray, List.map_cons, List.map_nil] <;> rfl) (fun args W => by go_simp) (fun a W hW hsp => by
              have e99 : a.eval (.tmp 99) = .agg #[.slice A0 n0 c0, .slice A1 n1 c1, .slice A2 n2 c2, .slice A3 n3 c3, .slice A4 n4 c4] := (hsp 99 (by kernel_rfl)).get rfl
              have e100 : a.eval (.tmp 100) = .int .i64 ya := (hsp 100 (by kernel_rfl)).get rfl
              simp only [e99, e100]
              exact (HA1.out _ hW).mono fun e w' ⟨he, hb⟩ => ⟨_, he, hb, sps rfl rfl⟩)) (by kernel_rfl) (by rfl)) ?_
          refine opsK_cons (by
           exact use_s [] (opOk_load (p := ⟨fb, 0, none⟩) rfl rfl (.inr ⟨23, 98, false, rfl, rfl, (by kernel_rfl), fun _ _ h => h.get rfl⟩) (by kernel_rfl) (fun _ _ h => h.get rfl) (fun W hW => by
              obtain ⟨⟨f0, f1, f2, f3, f4⟩, m0, m1, m2, m3, m4, m5, m6, m7, m8, m9, m10, m11, m12⟩ := HK.out _ hW
              exact ⟨.agg #[.slice A0 n0 c0, .slice A1 n1 c1, .slice A2 n2 c2, .slice A3 n3 c3, .slice A4 n4 c4], by go_simp, sps rfl rfl⟩)) (by kernel_rfl) (by rfl)) ?_
          refine opsK_cons (by
           exact use_s [] (opOk_run rfl (.inr ⟨23, 98, false, rfl, rfl, (by kernel_rfl), fun _ _ h => h.get rfl⟩) (fun a W hW hsp => by
              have e13 : a.eval (.tmp 13) = .pointer (some ⟨tb, 0, none⟩) := (hsp 13 (by kernel_rfl)).get rfl
              refine ⟨.pointer (some ⟨tb, 0, none⟩), ?_, sps rfl rfl⟩
              unfold execOp
              simp only [e13]
              go_simp)) (by kernel_rfl) (by rfl)) ?_
          refine opsK_cons (by
           exact use_s [] (opOk_run rfl (.inr ⟨23, 98, false, rfl, rfl, (by kernel_rfl), fun _ _ h => h.get rfl⟩) (fun a W hW hsp => by
              have e103 : a.eval (.tmp 103) = .pointer (some ⟨tb, 0, none⟩) := (hsp 103 (by kernel_rfl)).get rfl
              refine ⟨.pointer (some ⟨tb, 1, none⟩), ?_, sps rfl rfl⟩
              unfold execOp
              simp only [e103]
              go_simp)) (by kernel_rfl) (by rfl)) ?_
          refine opsK_cons (by
           exact use_s [] (opOk_load (p := ⟨tb, 1, none⟩) rfl rfl (.inr ⟨23, 98, false, rfl, rfl, (by kernel_rfl), fun _ _ h => h.get rfl⟩) (by kernel_rfl) (fun _ _ h => h.get rfl) (fun W hW => by
              obtain ⟨⟨f0, f1, f2, f3, f4⟩, m0, m1, m2, m3, m4, m5, m6, m7, m8, m9, m10, m11, m12⟩ := HK.out _ hW
              exact ⟨.int .i64 yb, by go_simp, sps rfl rfl⟩)) (by kernel_rfl) (by rfl)) ?_
          refine opsK_cons (by
           exact use_s [] (opOk_run rfl (.inr ⟨23, 98, false, rfl, rfl, (by kernel_rfl), fun _ _ h => h.get rfl⟩) (fun a W hW hsp => by
              have e105 : a.eval (.tmp 105) = .int .i64 yb := (hsp 105 (by kernel_rfl)).get rfl
              refine ⟨.int .i64 (yb - 1), ?_, sps rfl rfl⟩
              unfold execOp
              simp only [e105]
              go_simp
              exact IntWalk.i64_in _ (by omega))) (by kernel_rfl) (by rfl)) ?_
          refine opsK_cons (by
           exact use_s [] (opOk_callg (fun a => #[a.eval (.tmp 102), a.eval (.tmp 106)]) rfl rfl (.inr ⟨23, 98, false, rfl, rfl, (by kernel_rfl), fun _ _ h => h.get rfl⟩) (fun a => by simp only [List.map_toArray, List.map_cons, List.map_nil] <;> rfl) (fun args W => by go_simp) (fun a W hW hsp => by
              have e102 : a.eval (.tmp 102) = .agg #[.slice A0 n0 c0, .slice A1 n1 c1, .slice A2 n2 c2, .slice A3 n3 c3, .slice A4 n4 c4] := (hsp 102 (by kernel_rfl)).get rfl
              have e106 : a.eval (.tmp 106) = .int .i64 (yb - 1) := (hsp 106 (by kernel_rfl)).get rfl
              simp only [e102, e106]
              exact (HA2.out _ hW).mono fun e w' ⟨he, hb⟩ => ⟨_, he, hb, sps rfl rfl⟩)) (by kernel_rfl) (by rfl)) ?_
          refine opsK_cons (by
           exact use_s [] (opOk_run rfl (.inr ⟨23, 98, false, rfl, rfl, (by kernel_rfl), fun _ _ h => h.get rfl⟩) (fun a W hW hsp => by
              have e101 : a.eval (.tmp 101) = .agg #[.bool td.em, .int .i64 td.sa, .int .i64 td.pa, .int .i64 (td.h 0), .int .i64 (td.h 1), .int .i64 (td.h 2), .int .i64 (td.h 3), .int .i64 (td.h 4), .int .i64 (td.h 5), .int .i64 (td.h 6), .string td.co] := (hsp 101 (by kernel_rfl)).get rfl
              have e107 : a.eval (.tmp 107) = .agg #[.bool t2.em, .int .i64 t2.sa, .int .i64 t2.pa, .int .i64 (t2.h 0), .int .i64 (t2.h 1), .int .i64 (t2.h 2), .int .i64 (t2.h 3), .int .i64 (t2.h 4), .int .i64 (t2.h 5), .int .i64 (t2.h 6), .string t2.co] := (hsp 107 (by kernel_rfl)).get rfl
              refine ⟨.bool false, ?_, sps rfl rfl⟩
              unfold execOp
              simp only [e101, e107]
              have hq := HNE.out
              go_simp)) (by kernel_rfl) (by rfl)) ?_
          refine opsK_cons (by
           exact use_s [] (opOk_run rfl (.inl rfl) (fun a W hW hsp => by
              have e98 : a.eval (.tmp 98) = .bool false := (hsp 98 (by kernel_rfl)).get rfl
              have e108 : a.eval (.tmp 108) = .bool false := (hsp 108 (by kernel_rfl)).get rfl
              refine ⟨.bool false, ?_, sps rfl rfl⟩
              unfold execOp
              simp only [e98, e108]
              go_simp)) (by kernel_rfl) (by rfl)) ?_
          exact opsK_nil
        · intro vs W3 hb hsp
          have z109 := (hsp 109 (by simp)).get rfl
          simp only [putAll]
          go_simp
          go_step
          go_meet
          exact ⟨by first | rfl | exact z109, Lib.hid hb⟩
      case rest =>
      obtain ⟨rfl, HB9⟩ := hcut
      obtain ⟨w9, rfl⟩ : ∃ x : World, x = wc := ⟨_, rfl⟩
      go_upto_region 17 with fail
      have HK9 := HK
      have HK : Hid (∀ W, Below w9.heap.size w9 W → (W.cell? ⟨fb, 0, none⟩ = some (.slice A0 n0 c0) ∧ W.cell? ⟨fb, 1, none⟩ = some (.slice A1 n1 c1) ∧ W.cell? ⟨fb, 2, none⟩ = some (.slice A2 n2 c2) ∧ W.cell? ⟨fb, 3, none⟩ = some (.slice A3 n3 c3) ∧ W.cell? ⟨fb, 4, none⟩ = some (.slice A4 n4 c4)) ∧ W.cell? ⟨tb, 0, none⟩ = some (.int .i64 ya) ∧ W.cell? ⟨tb, 1, none⟩ = some (.int .i64 yb) ∧ W.cell? ⟨tb, 2, none⟩ = some (.bool td.em) ∧ W.cell? ⟨tb, 3, none⟩ = some (.int .i64 td.sa) ∧ W.cell? ⟨tb, 4, none⟩ = some (.int .i64 td.pa) ∧ W.cell? ⟨tb, 5, none⟩ = some (.int .i64 (td.h 0)) ∧ W.cell? ⟨tb, 6, none⟩ = some (.int .i64 (td.h 1)) ∧ W.cell? ⟨tb, 7, none⟩ = some (.int .i64 (td.h 2)) ∧ W.cell? ⟨tb, 8, none⟩ = some (.int .i64 (td.h 3)) ∧ W.cell? ⟨tb, 9, none⟩ = some (.int .i64 (td.h 4)) ∧ W.cell? ⟨tb, 10, none⟩ = some (.int .i64 (td.h 5)) ∧ W.cell? ⟨tb, 11, none⟩ = some (.int .i64 (td.h 6)) ∧ W.cell? ⟨tb, 12, none⟩ = some (.string td.co)) := Lib.hid fun W hW => HK9.out W (bTrans HB9.out hW)
      have HA1 : Hid (∀ W, Below w9.heap.size w9 W → _) := Lib.hid fun W hW => HA1.out W (bTrans HB9.out hW)
      have HA3 : Hid (∀ W, Below w9.heap.size w9 W → _) := Lib.hid fun W hW => HA3.out W (bTrans HB9.out hW)
      go_cut [121] from 110 to 121 (fun q wx => q = .bool false ∧ Hid (Below w9.heap.size w9 wx))
      case first =>
        by_cases hk0 : k = 0
        · subst hk0
          refine wp_region_use (SPS [(10, Sp.val (.pointer (some ⟨fb, 0, none⟩))), (11, Sp.val (.int .i64 ya)), (12, Sp.val (.int .i64 0)), (111, Sp.val (.bool false)), (121, Sp.val (.bool false)), (110, Sp.val (.int .i64 0)), (112, Sp.val (.bool false))]) [] [110, 111, 112, 113, 114, 115, 116, 117, 118, 119, 120, 121] rfl (by rfl) (by kernel_rfl) (SPS.st _) (by rfl) ?_ (opsK_all ?_) ?_
          · exact sps_start (cons_all rfl (cons_all rfl (cons_all rfl (nil_all))))
          · refine opsK_cons (by
             exact use_s [] (opOk_move rfl rfl (.inl rfl) (by kernel_rfl) (fun _ _ h => sps rfl (h.get rfl))) (by kernel_rfl) (by rfl)) ?_
            refine opsK_cons (by
             exact use_s [] (opOk_run rfl (.inl rfl) (fun a W hW hsp => by
                have e110 : a.eval (.tmp 110) = .int .i64 0 := (hsp 110 (by kernel_rfl)).get rfl
                refine ⟨.bool false, ?_, sps rfl rfl⟩
                unfold execOp
                simp only [e110]
                go_simp)) (by kernel_rfl) (by rfl)) ?_
            refine opsK_cons (by
             exact use_s [] (opOk_move rfl rfl (.inl rfl) (by kernel_rfl) (fun _ _ h => sps rfl (h.get rfl))) (by kernel_rfl) (by rfl)) ?_
            refine opsK_cons (by
             exact use_skip rfl rfl (by kernel_rfl) (by rfl) (fun _ _ h => h.get rfl) (fun d hd => by cases hd; rfl)) ?_
            refine opsK_cons (by
             exact use_skip rfl rfl (by kernel_rfl) (by rfl) (fun _ _ h => h.get rfl) (fun d hd => by cases hd; rfl)) ?_
            refine opsK_cons (by
             exact use_skip rfl rfl (by kernel_rfl) (by rfl) (fun _ _ h => h.get rfl) (fun d hd => by cases hd; rfl)) ?_
            refine opsK_cons (by
             exact use_skip rfl rfl (by kernel_rfl) (by rfl) (fun _ _ h => h.get rfl) (fun d hd => by cases hd; rfl)) ?_
            refine opsK_cons (by
             exact use_skip rfl rfl (by kernel_rfl) (by rfl) (fun _ _ h => h.get rfl) (fun d hd => by cases hd; rfl)) ?_
            refine opsK_cons (by
             exact use_skip rfl rfl (by kernel_rfl) (by rfl) (fun _ _ h => h.get rfl) (fun d hd => by cases hd; rfl)) ?_
            refine opsK_cons (by
             exact use_skip rfl rfl (by kernel_rfl) (by rfl) (fun _ _ h => h.get rfl) (fun d hd => by cases hd; rfl)) ?_
            refine opsK_cons (by
             exact use_skip rfl rfl (by kernel_rfl) (by rfl) (fun _ _ h => h.get rfl) (fun d hd => by cases hd; rfl)) ?_
            refine opsK_cons (by
             exact use_s [] (opOk_run rfl (.inl rfl) (fun a W hW hsp => by
                have e112 : a.eval (.tmp 112) = .bool false := (hsp 112 (by kernel_rfl)).get rfl
                refine ⟨.bool false, ?_, sps rfl rfl⟩
                unfold execOp
                simp only [e112]
                go_simp)) (by kernel_rfl) (by rfl)) ?_
            exact opsK_nil
          · intro vs W3 hb hsp
            have z121 := (hsp 121 (by simp)).get rfl
            simp only [putAll]
            go_simp
            go_step
            go_meet
            exact ⟨by first | rfl | exact z121, Lib.hid hb⟩
        · have hk1 : 0 < k := by omega
          have HNQ := Lib.hid (HNQ.out (by omega))
          refine wp_region_use (SPS [(10, Sp.val (.pointer (some ⟨fb, 0, none⟩))), (11, Sp.val (.int .i64 ya)), (12, Sp.val (.int .i64 k)), (111, Sp.val (.bool true)), (113, Sp.val (.agg #[.slice A0 n0 c0, .slice A1 n1 c1, .slice A2 n2 c2, .slice A3 n3 c3, .slice A4 n4 c4])), (115, Sp.val (.int .i64 (ya - 1))), (116, Sp.val (.agg #[.bool t3.em, .int .i64 t3.sa, .int .i64 t3.pa, .int .i64 (t3.h 0), .int .i64 (t3.h 1), .int .i64 (t3.h 2), .int .i64 (t3.h 3), .int .i64 (t3.h 4), .int .i64 (t3.h 5), .int .i64 (t3.h 6), .string t3.co])), (117, Sp.val (.agg #[.slice A0 n0 c0, .slice A1 n1 c1, .slice A2 n2 c2, .slice A3 n3 c3, .slice A4 n4 c4])), (119, Sp.val (.agg #[.bool td.em, .int .i64 td.sa, .int .i64 td.pa, .int .i64 (td.h 0), .int .i64 (td.h 1), .int .i64 (td.h 2), .int .i64 (td.h 3), .int .i64 (td.h 4), .int .i64 (td.h 5), .int .i64 (td.h 6), .string td.co])), (120, Sp.val (.bool false)), (110, Sp.val (.int .i64 k)), (112, Sp.val (.bool true)), (114, Sp.val (.int .i64 ya)), (118, Sp.val (.int .i64 ya)), (121, Sp.val (.bool false))]) [] [110, 111, 112, 113, 114, 115, 116, 117, 118, 119, 120, 121] rfl (by rfl) (by kernel_rfl) (SPS.st _) (by rfl) ?_ (opsK_all ?_) ?_
          · exact sps_start (cons_all rfl (cons_all rfl (cons_all rfl (nil_all))))
          · refine opsK_cons (by
             exact use_s [] (opOk_move rfl rfl (.inl rfl) (by kernel_rfl) (fun _ _ h => sps rfl (h.get rfl))) (by kernel_rfl) (by rfl)) ?_
            refine opsK_cons (by
             exact use_s [] (opOk_run rfl (.inl rfl) (fun a W hW hsp => by
                have e110 : a.eval (.tmp 110) = .int .i64 k := (hsp 110 (by kernel_rfl)).get rfl
                refine ⟨.bool true, ?_, sps rfl rfl⟩
                unfold execOp
                simp only [e110]
                go_simp)) (by kernel_rfl) (by rfl)) ?_
            refine opsK_cons (by
             exact use_s [] (opOk_move rfl rfl (.inl rfl) (by kernel_rfl) (fun _ _ h => sps rfl (h.get rfl))) (by kernel_rfl) (by rfl)) ?_
            refine opsK_cons (by
             exact use_s [] (opOk_load (p := ⟨fb, 0, none⟩) rfl rfl (.inr ⟨2, 112, true, rfl, rfl, (by kernel_rfl), fun _ _ h => h.get rfl⟩) (by kernel_rfl) (fun _ _ h => h.get rfl) (fun W hW => by
                obtain ⟨⟨f0, f1, f2, f3, f4⟩, m0, m1, m2, m3, m4, m5, m6, m7, m8, m9, m10, m11, m12⟩ := HK.out _ hW
                exact ⟨.agg #[.slice A0 n0 c0, .slice A1 n1 c1, .slice A2 n2 c2, .slice A3 n3 c3, .slice A4 n4 c4], by go_simp, sps rfl rfl⟩)) (by kernel_rfl) (by rfl)) ?_
            refine opsK_cons (by
             exact use_s [] (opOk_move rfl rfl (.inr ⟨2, 112, true, rfl, rfl, (by kernel_rfl), fun _ _ h => h.get rfl⟩) (by kernel_rfl) (fun _ _ h => sps rfl (h.get rfl))) (by kernel_rfl) (by rfl)) ?_
            refine opsK_cons (by
             exact use_s [] (opOk_run rfl (.inr ⟨2, 112, true, rfl, rfl, (by kernel_rfl), fun _ _ h => h.get rfl⟩) (fun a W hW hsp => by
                have e114 : a.eval (.tmp 114) = .int .i64 ya := (hsp 114 (by kernel_rfl)).get rfl
                refine ⟨.int .i64 (ya - 1), ?_, sps rfl rfl⟩
                unfold execOp
                simp only [e114]
                go_simp
                exact IntWalk.i64_in _ (by omega))) (by kernel_rfl) (by rfl)) ?_
            refine opsK_cons (by
             exact use_s [] (opOk_callg (fun a => #[a.eval (.tmp 113), a.eval (.tmp 115)]) rfl rfl (.inr ⟨2, 112, true, rfl, rfl, (by kernel_rfl), fun _ _ h => h.get rfl⟩) (fun a => by simp only [List.map_toArray, List.map_cons, List.map_nil] <;> rfl) (fun args W => by go_simp) (fun a W hW hsp => by
                have e113 : a.eval (.tmp 113) = .agg #[.slice A0 n0 c0, .slice A1 n1 c1, .slice A2 n2 c2, .slice A3 n3 c3, .slice A4 n4 c4] := (hsp 113 (by kernel_rfl)).get rfl
                have e115 : a.eval (.tmp 115) = .int .i64 (ya - 1) := (hsp 115 (by kernel_rfl)).get rfl
                simp only [e113, e115]
                exact (HA3.out _ hW).mono fun e w' ⟨he, hb⟩ => ⟨_, he, hb, sps rfl rfl⟩)) (by kernel_rfl) (by rfl)) ?_
            refine opsK_cons (by
             exact use_s [] (opOk_load (p := ⟨fb, 0, none⟩) rfl rfl (.inr ⟨2, 112, true, rfl, rfl, (by kernel_rfl), fun _ _ h => h.get rfl⟩) (by kernel_rfl) (fun _ _ h => h.get rfl) (fun W hW => by
                obtain ⟨⟨f0, f1, f2, f3, f4⟩, m0, m1, m2, m3, m4, m5, m6, m7, m8, m9, m10, m11, m12⟩ := HK.out _ hW
                exact ⟨.agg #[.slice A0 n0 c0, .slice A1 n1 c1, .slice A2 n2 c2, .slice A3 n3 c3, .slice A4 n4 c4], by go_simp, sps rfl rfl⟩)) (by kernel_rfl) (by rfl)) ?_
            refine opsK_cons (by
             exact use_s [] (opOk_move rfl rfl (.inr ⟨2, 112, true, rfl, rfl, (by kernel_rfl), fun _ _ h => h.get rfl⟩) (by kernel_rfl) (fun _ _ h => sps rfl (h.get rfl))) (by kernel_rfl) (by rfl)) ?_
            refine opsK_cons (by
             exact use_s [] (opOk_callg (fun a => #[a.eval (.tmp 117), a.eval (.tmp 118)]) rfl rfl (.inr ⟨2, 112, true, rfl, rfl, (by kernel_rfl), fun _ _ h => h.get rfl⟩) (fun a => by simp only [List.map_toArray, List.map_cons, List.map_nil] <;> rfl) (fun args W => by go_simp) (fun a W hW hsp => by
                have e117 : a.eval (.tmp 117) = .agg #[.slice A0 n0 c0, .slice A1 n1 c1, .slice A2 n2 c2, .slice A3 n3 c3, .slice A4 n4 c4] := (hsp 117 (by kernel_rfl)).get rfl
                have e118 : a.eval (.tmp 118) = .int .i64 ya := (hsp 118 (by kernel_rfl)).get rfl
                simp only [e117, e118]
                exact (HA1.out _ hW).mono fun e w' ⟨he, hb⟩ => ⟨_, he, hb, sps rfl rfl⟩)) (by kernel_rfl) (by rfl)) ?_
            refine opsK_cons (by
             exact use_s [] (opOk_run rfl (.inr ⟨2, 112, true, rfl, rfl, (by kernel_rfl), fun _ _ h => h.get rfl⟩) (fun a W hW hsp => by
                have e116 : a.eval (.tmp 116) = .agg #[.bool t3.em, .int .i64 t3.sa, .int .i64 t3.pa, .int .i64 (t3.h 0), .int .i64 (t3.h 1), .int .i64 (t3.h 2), .int .i64 (t3.h 3), .int .i64 (t3.h 4), .int .i64 (t3.h 5), .int .i64 (t3.h 6), .string t3.co] := (hsp 116 (by kernel_rfl)).get rfl
                have e119 : a.eval (.tmp 119) = .agg #[.bool td.em, .int .i64 td.sa, .int .i64 td.pa, .int .i64 (td.h 0), .int .i64 (td.h 1), .int .i64 (td.h 2), .int .i64 (td.h 3), .int .i64 (td.h 4), .int .i64 (td.h 5), .int .i64 (td.h 6), .string td.co] := (hsp 119 (by kernel_rfl)).get rfl
                refine ⟨.bool false, ?_, sps rfl rfl⟩
                unfold execOp
                simp only [e116, e119]
                have hq := HNQ.out
                go_simp)) (by kernel_rfl) (by rfl)) ?_
            refine opsK_cons (by
             exact use_s [] (opOk_run rfl (.inl rfl) (fun a W hW hsp => by
                have e112 : a.eval (.tmp 112) = .bool true := (hsp 112 (by kernel_rfl)).get rfl
                have e120 : a.eval (.tmp 120) = .bool false := (hsp 120 (by kernel_rfl)).get rfl
                refine ⟨.bool false, ?_, sps rfl rfl⟩
                unfold execOp
                simp only [e112, e120]
                go_simp)) (by kernel_rfl) (by rfl)) ?_
            exact opsK_nil
          · intro vs W3 hb hsp
            have z121 := (hsp 121 (by simp)).get rfl
            simp only [putAll]
            go_simp
            go_step
            go_meet
            exact ⟨by first | rfl | exact z121, Lib.hid hb⟩
      case rest =>
      obtain ⟨rfl, HB10⟩ := hcut
      obtain ⟨w10, rfl⟩ : ∃ x : World, x = wc := ⟨_, rfl⟩
      have hz := bTrans HB9.out HB10.out
      have T1 : w10.cell? ⟨tb, 1, none⟩ = some (.int .i64 yb) := bCell hz (HT8.out.cell 1)
      have HBn : Hid (Below w7.heap.size w7 w10) := Lib.hid (bTrans HB8.out hz)
      clear HK HK9 HA1 HA2 HA3 HNE HNQ HLK HT8 HB9 HB10 HB8 hz HB
      go_wp2
      exact ⟨⟨k + 1, by omega, by go_num, by rw [HNB.out], HBn⟩, by simp [intOf]; omega⟩
    · obtain rfl : k = R.length := by omega
      have HB9 := Lib.hid (bTrans HBW.out HB.out)
      have S1 : wr.cell? ⟨sb, 1, none⟩ = some (.int .i64 U) := bCell HB.out (HP7.out.cell 1)
      rw [begS_len]
      go_wp2_with fail
      refine (HAW.out _ HB9.out).mono ?_
      rintro e w9 ⟨rfl, hb9⟩
      have HF := Lib.hid (bTrans HB9.out hb9)
      clear hb9
      go_wp2
      go_ret
      exact ⟨rfl, HF.out⟩
end Go.Proofs.YtlgoaohklggcdaaGreatDoor
