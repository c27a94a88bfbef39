import Derived.Test.YtlgoaohklggcdaaGreatDoorLwo
import Derived.Test.YtlgoaohklggcdaaGreatDoorRta
import Derived.BigQuiet
/- law16.TermsEmployed. -/
namespace Go.Proofs.YtlgoaohklggcdaaGreatDoor
open Go.RowKit Go.Sort

/-- How often the first loop has counted. -/
def cntK (p : Int → Bool) (F : Int) (m k : Nat) : Int := cntB p F (min (k - 1) m)
theorem cntK_le (p : Int → Bool) (F : Int) (m k : Nat) : 0 ≤ cntK p F m k ∧ cntK p F m k ≤ m := by
  have h := cntB_le p F (min (k - 1) m)
  unfold cntK
  omega
theorem cntK_in (p : Int → Bool) (F : Int) {m k : Nat} (h1 : 1 ≤ k) (h2 : k ≤ m) : cntK p F m (k + 1) = cntK p F m k + (if p (F - 1 + k) = true then 1 else 0) := by
  unfold cntK
  rw [show min (k + 1 - 1) m = (k - 1) + 1 by omega, show min (k - 1) m = k - 1 by omega, cntB, show F + ((k - 1 : Nat) : Int) = F - 1 + (k : Int) by omega]
theorem cntK_out (p : Int → Bool) (F : Int) {m k : Nat} (h : k = 0 ∨ m < k) : cntK p F m (k + 1) = cntK p F m k := by
  unfold cntK
  rcases h with rfl | h
  · rfl
  · rw [show min (k + 1 - 1) m = m by omega, show min (k - 1) m = m by omega]
theorem ends_step {X : List Kn} {k : Nat} {x : Kn} (h : X[k]? = some x) (p : Int → Bool) (s : Int × Bool) : (endsX (X.take (k + 1))).foldl (minP p) s = minP p (minP p ((endsX (X.take k)).foldl (minP p) s) x.2.fr) x.2.to := by
  unfold endsX
  rw [List.take_add_one, h, Option.toList_some, List.flatMap_append, List.foldl_append]
  rfl
def half (x : Kn) (p : Int → Bool) (s : Int × Bool) : Nat → Int × Bool
  | 0 => s
  | 1 => minP p s x.2.fr
  | _ => minP p (minP p s x.2.fr) x.2.to
def endK (x : Kn) : Nat → Int
  | 0 => x.2.fr
  | _ => x.2.to
theorem half_step (x : Kn) (p : Int → Bool) (s : Int × Bool) {k : Nat} (h : k < 2) : half x p s (k + 1) = minP p (half x p s k) (endK x k) := by
  obtain rfl | rfl : k = 0 ∨ k = 1 := by omega
  · rfl
  · rfl
theorem rt_ex (t : Td) : ∃ s p x0 x1 x2 x3 x4 x5 x6 co, rtC t = #[.bool t.em, .int .i64 s, .int .i64 p, .int .i64 x0, .int .i64 x1, .int .i64 x2, .int .i64 x3, .int .i64 x4, .int .i64 x5, .int .i64 x6, .string co] := ⟨t.sa, t.pa, t.h 0, t.h 1, t.h 2, t.h 3, t.h 4, t.h 5, t.h 6, t.co, rfl⟩
theorem run_fRT (pb : Bool) (s q x0 x1 x2 x3 x4 x5 x6 : Int) (co : ByteArray) (w : World) : (Instr.field 52 (.agg #[.bool pb, .int .i64 s, .int .i64 q, .int .i64 x0, .int .i64 x1, .int .i64 x2, .int .i64 x3, .int .i64 x4, .int .i64 x5, .int .i64 x6, .string co]) 0).run Tryz.prog w = .ok (.bool pb) w := by
  first | (kernel_rfl; done) | (simp [Instr.field, asAgg, Tryz.underlying52, go_sem]; done)
theorem r4e_In (d : Int) (w : World) : Calls Tryz.prog 28 #[.int .i64 d] w fun e w' => e = .returned (.bool (decide (-25567 ≤ d ∧ d ≤ 84005))) ∧ w = w' := by
  by_cases h1 : -25567 ≤ d
  · by_cases h2 : d ≤ 84005
    · have d1 : decide ((-25567 : Int) ≤ d) = true := decide_eq_true h1
      have d2 : decide (d ≤ (84005 : Int)) = true := decide_eq_true h2
      rw [decide_eq_true (And.intro h1 h2)]
      go_enter Tryz.func28, Tryz.ntmps28
      go_wp2
      go_ret
      exact ⟨rfl, rfl⟩
    · have d1 : decide ((-25567 : Int) ≤ d) = true := decide_eq_true h1
      have d2 : decide (d ≤ (84005 : Int)) = false := decide_eq_false h2
      rw [decide_eq_false (fun h => h2 h.2)]
      go_enter Tryz.func28, Tryz.ntmps28
      go_wp2
      go_ret
      exact ⟨rfl, rfl⟩
  · have d1 : decide ((-25567 : Int) ≤ d) = false := decide_eq_false h1
    rw [decide_eq_false (fun h => h1 h.1)]
    go_enter Tryz.func28, Tryz.ntmps28
    go_wp2
    go_ret
    exact ⟨rfl, rfl⟩
def spTwo (B : Nat) (p q : Int) : Sp := ⟨fun v w => ∃ b, v = .slice (some ⟨b, 0, none⟩) 2 2 ∧ B ≤ b ∧ Bk b 29 #[.int .i64 p, .int .i64 q] w, fun _ _ _ ⟨b, h1, h2, h3⟩ hb => ⟨b, h1, h2, (hb.block b h3.lt).trans h3⟩⟩
theorem build_two {ev : Operand → Value} {o : Oper} {t1 t2 : Nat} {p q : Int} (hop : o.op = .buildSlice 79 2 #[(0, .tmp t1), (1, .tmp t2)]) (e1 : ev (.tmp t1) = .int .i64 p) (e2 : ev (.tmp t2) = .int .i64 q) (W : World) :
    (execOp ev o).run Tryz.prog W = .ok (.value (.slice (some ⟨W.heap.size, 0, none⟩) 2 2)) (W.alloc (.cells #[.int .i64 p, .int .i64 q] 29)) := by
  unfold execOp
  simp only [hop]
  go_simp
set_option maxHeartbeats 4000000 in
set_option maxRecDepth 100000 in
theorem lw_TermsEmployed (l : List Fa) (A : Option Addr) (ca : Nat) (pe a b : Int) (w : World) (hl : l.length ≤ 9223372036854775807) (fl : ∀ f ∈ l, FitW f) (hL : SlF w A l) (ha : 0 ≤ a ∧ a ≤ 4294967295) (hT : Tb w) (hC : Tab w) :
    Calls Tryz.prog 9 #[.slice A l.length ca, .int .u32 pe, .agg #[.int .u32 a, .int .u32 b]] w fun e w' => e = .returned (.bool true) ∧ Below w.heap.size w w' := by
  have HAW : Hid (∀ W, Below w.heap.size w W → Calls Tryz.prog 16 #[] W fun e w' => e = .returned (.bool true) ∧ Below W.heap.size W w') := Lib.hid fun W hW => la_awake16 W (hT.below hW) (tabBel hC hW)
  obtain ⟨ab, hab⟩ : ∃ z, w.heap.size = z := ⟨_, rfl⟩
  obtain ⟨w2, hw2⟩ : ∃ z, w.alloc (.cells #[.int .u32 a, .int .u32 b] 24) = z := ⟨_, rfl⟩
  have hk2 : Bk ab 24 #[.int .u32 a, .int .u32 b] w2 := by rw [← hw2, ← hab]; exact Bk.new _ _ _
  have hb2 : Below w.heap.size w w2 := by rw [← hw2]; exact bAlloc _ _
  have HB2 := Lib.hid hb2
  have HK2 := Lib.hid hk2
  have HC2 : Hid (Tab w2) := Lib.hid (tabBel hC hb2)
  by_cases h40 : (40 : Int) < (l.length : Int)
  · clear hab hw2 hk2 hb2 hL hT hC fl HK2 HC2
    go_enter Tryz.func9, Tryz.ntmps9
    go_wp2_with fail
    refine (HAW.out _ (bAlloc _ _)).mono ?_
    rintro e w3 ⟨rfl, hb3⟩
    have HF := Lib.hid (bTrans (bAlloc w (.cells #[.int .u32 a, .int .u32 b] 24)) hb3)
    clear hb3
    go_wp2
    go_ret
    exact ⟨rfl, HF.out⟩
  have HTD : Hid (Calls Tryz.prog 17 #[.slice A l.length ca] w2 fun e w' => (∃ A2, e = .returned (.agg #[.slice A2 (tellL [] l).length (tellL [] l).length]) ∧ SlF w' A2 (tellL [] l)) ∧ Below w2.heap.size w2 w') := Lib.hid (la_told16 l A ca w2 (by omega) fl (hL.below hb2) (hT.below hb2))
  obtain ⟨T, hTT⟩ : ∃ T, tellL [] l = T := ⟨_, rfl⟩
  have hTl : T.length ≤ 40 := by rw [← hTT]; have := told_len l; omega
  have HTX : Hid (∀ f ∈ T, f.tx.size ≤ 1000000) := Lib.hid (by rw [← hTT]; exact told_tx fl)
  have HTF : Hid (∀ f ∈ T, -25567 ≤ f.fr) := Lib.hid (by rw [← hTT]; exact told_fr)
  rw [hTT] at HTD
  obtain ⟨X, hX⟩ : ∃ X, lsOf T pe = X := ⟨_, rfl⟩
  have HXE := Lib.hid hX
  have HXL : Hid (∀ i, i < 5 → (X.at_ i).length ≤ 1000000) := Lib.hid fun i hi => by rw [← hX]; have := lsOf_len T pe i hi; omega
  have HXT : Hid (∀ x ∈ X.d, x.2.tx.size ≤ 1000000) := Lib.hid (by rw [← hX]; exact lsOf_tx HTX.out)
  have HXA : Hid (chosen (ofPK pe 1) T T.length = X.a) := Lib.hid (by rw [← hX]; rfl)
  have hXa : X.a.length ≤ 40 := by rw [← HXA.out]; exact Nat.le_trans (chosen_len _ _ _) hTl
  have HXF : Hid (∀ x ∈ X.a, -25567 ≤ x.2.fr) := Lib.hid (by rw [← HXA.out]; exact fun x hx => HTF.out _ (chosen_of hx))
  have HE := Lib.hid (And.intro hab hw2)
  clear hab hw2 hk2 hb2 hL hT hC fl hTT hX
  go_enter Tryz.func9, Tryz.ntmps9
  go_upto_region 1 with fail
  rw [HE.out.1, HE.out.2]
  clear HE
  go_wp2_with fail
  refine HTD.out.mono ?_
  rintro e w3 ⟨⟨AV, rfl, hs3⟩, hb3⟩
  obtain ⟨vb, hvb⟩ : ∃ z, w3.heap.size = z := ⟨_, rfl⟩
  obtain ⟨w4, hw4⟩ : ∃ z, w3.alloc (.cells #[.slice AV T.length T.length] 27) = z := ⟨_, rfl⟩
  have hb4 : Below w3.heap.size w3 w4 := by rw [← hw4]; exact bAlloc _ _
  have HV4 : Hid (Bk vb 27 #[.slice AV T.length T.length] w4) := Lib.hid (by rw [← hw4, ← hvb]; exact Bk.new _ _ _)
  have HB4 : Hid (Below w2.heap.size w2 w4) := Lib.hid (bTrans hb3 hb4)
  have HS4 : Hid (SlF w4 AV T) := Lib.hid (hs3.below hb4)
  have AB0 : w4.cell? ⟨ab, 0, none⟩ = some (.int .u32 a) := bCell HB4.out (HK2.out.cell 0)
  have AB1 : w4.cell? ⟨ab, 1, none⟩ = some (.int .u32 b) := bCell HB4.out (HK2.out.cell 1)
  have HE := Lib.hid (And.intro hvb hw4)
  have HWI := Lib.hid (la_within a (b % 65536) w4 ha (by omega))
  clear hvb hw4 hb3 hb4 hs3 HTD
  go_upto_region 4 with fail
  rw [HE.out.1, HE.out.2]
  clear HE
  go_wp2_with fail
  refine HWI.out.mono ?_
  rintro e w5 ⟨⟨F, m, rfl, hF1, hF2, hm1, hm2⟩, hb5⟩
  obtain ⟨sb, hsb⟩ : ∃ z, w5.heap.size = z := ⟨_, rfl⟩
  obtain ⟨w6, hw6⟩ : ∃ z, w5.alloc (.cells #[.int .i64 F, .int .i64 (F + m)] 31) = z := ⟨_, rfl⟩
  have hb6 : Below w4.heap.size w4 w6 := by rw [← hw6]; exact bTrans hb5 (bAlloc _ _)
  have HP6 : Hid (Bk sb 31 #[.int .i64 F, .int .i64 (F + m)] w6) := Lib.hid (by rw [← hw6, ← hsb]; exact Bk.new _ _ _)
  have HB6 : Hid (Below w4.heap.size w4 w6) := Lib.hid hb6
  have HV6 : Hid (Bk vb 27 #[.slice AV T.length T.length] w6) := Lib.hid (bk_bel HV4.out hb6)
  have HS6 : Hid (SlF w6 AV T) := Lib.hid (HS4.out.below hb6)
  have HC6 : Hid (Tab w6) := Lib.hid (tabBel (tabBel HC2.out HB4.out) hb6)
  have HBW6 : Hid (Below w.heap.size w w6) := Lib.hid (bTrans HB2.out (bTrans HB4.out hb6))
  have HFA : Hid (Calls Tryz.prog 21 #[.agg #[.slice AV T.length T.length], .int .u32 pe] w6 fun e w' => ∃ V : Nat → Value, e = .returned (.agg #[V 0, V 1, V 2, V 3, V 4]) ∧ (∀ i, i < 5 → ∃ A c, V i = .slice A (X.at_ i).length c ∧ Sl encR 5 w' w'.heap.size A (X.at_ i)) ∧ Below w6.heap.size w6 w') := Lib.hid (by
    have h := la_facts T AV T.length pe w6 (by omega) HS6.out
    rw [HXE.out] at h
    exact h)
  have HE := Lib.hid (And.intro hsb hw6)
  clear hsb hw6 hb5 hb6 HWI AB0 AB1 HB2 HB4 HB6 HK2 HC2 HV4 HS4
  go_upto_region 5 with fail
  rw [HE.out.1, HE.out.2]
  clear HE
  have C0 : w6.cell? ⟨vb, 0, none⟩ = some (.slice AV T.length T.length) := HV6.out.cell 0
  go_wp2_with fail
  refine HFA.out.mono ?_
  rintro e w7 ⟨V, rfl, hV, hb7⟩
  obtain ⟨A0, c0, e0, hs0⟩ : ∃ A c, V 0 = .slice A X.a.length c ∧ Sl encR 5 w7 w7.heap.size A X.a := hV 0 (by omega)
  obtain ⟨A1, n1, c1, e1⟩ : ∃ A n c, V 1 = .slice A n c := by obtain ⟨A, c, h, _⟩ := hV 1 (by omega); exact ⟨A, _, c, h⟩
  obtain ⟨A2, n2, c2, e2⟩ : ∃ A n c, V 2 = .slice A n c := by obtain ⟨A, c, h, _⟩ := hV 2 (by omega); exact ⟨A, _, c, h⟩
  obtain ⟨A3, n3, c3, e3⟩ : ∃ A n c, V 3 = .slice A n c := by obtain ⟨A, c, h, _⟩ := hV 3 (by omega); exact ⟨A, _, c, h⟩
  obtain ⟨A4, n4, c4, e4⟩ : ∃ A n c, V 4 = .slice A n c := by obtain ⟨A, c, h, _⟩ := hV 4 (by omega); exact ⟨A, _, c, h⟩
  obtain ⟨fb, hfb⟩ : ∃ z, w7.heap.size = z := ⟨_, rfl⟩
  obtain ⟨w8, hw8⟩ : ∃ z, w7.alloc (.cells #[.slice A0 X.a.length c0, .slice A1 n1 c1, .slice A2 n2 c2, .slice A3 n3 c3, .slice A4 n4 c4] 42) = z := ⟨_, rfl⟩
  have hb78 : Below w7.heap.size w7 w8 := by rw [← hw8]; exact bAlloc _ _
  have HF8 : Hid (Bk fb 42 #[.slice A0 X.a.length c0, .slice A1 n1 c1, .slice A2 n2 c2, .slice A3 n3 c3, .slice A4 n4 c4] w8) := Lib.hid (by rw [← hw8, ← hfb]; exact Bk.new _ _ _)
  have hb8 : Below w6.heap.size w6 w8 := bTrans hb7 hb78
  have HB8 := Lib.hid hb8
  have HZ8 : Hid (Sl encR 5 w8 w8.heap.size A0 X.a) := Lib.hid (sl_bel hs0 hb78)
  have HAT : Hid (∀ d W, Below w8.heap.size w8 W → Calls Tryz.prog 23 #[.agg #[.slice A0 X.a.length c0, .slice A1 n1 c1, .slice A2 n2 c2, .slice A3 n3 c3, .slice A4 n4 c4], .int .i64 d] W fun e w' => (∃ s p x0 x1 x2 x3 x4 x5 x6 co, e = .returned (.agg #[.bool (emD X.a d), .int .i64 s, .int .i64 p, .int .i64 x0, .int .i64 x1, .int .i64 x2, .int .i64 x3, .int .i64 x4, .int .i64 x5, .int .i64 x6, .string co])) ∧ Below W.heap.size W w') := Lib.hid fun d W hW => by
    have h := r16_At X V d W HXL.out HXT.out (fun i hi => by
      obtain ⟨A, c, h1, h2⟩ := hV i hi
      exact ⟨A, c, h1, sl_bel h2 (bTrans hb78 hW)⟩)
    rw [e0, e1, e2, e3, e4] at h
    refine h.mono fun e w' ⟨h1, h2⟩ => ⟨?_, h2⟩
    obtain ⟨s, p, x0, x1, x2, x3, x4, x5, x6, co, hr⟩ := rt_ex (onX X d)
    exact ⟨s, p, x0, x1, x2, x3, x4, x5, x6, co, by rw [h1, hr, onX_em]⟩
  obtain ⟨E, hE⟩ : ∃ E, emplX X.a F (F + m) = E := ⟨_, rfl⟩
  obtain ⟨hE1, hE2, hE3, hE4⟩ := empl_law X.a (F := F) (T := F + m) (by omega) (by omega) (by omega)
  rw [hE] at hE1 hE2 hE3 hE4
  have HEM : Hid (Calls Tryz.prog 26 #[.agg #[.slice AV T.length T.length], .int .u32 pe, .agg #[.int .i64 F, .int .i64 (F + m)]] w8 fun e w' => (∃ A' c', e = .returned (.agg #[.slice A' E.length c']) ∧ Sl encSp 2 w' w'.heap.size A' E) ∧ Below w8.heap.size w8 w') := Lib.hid (by
    have h := tm_Employed T AV T.length pe F (F + m) w8 (by omega) (HS6.out.below hb8) (tabBel HC6.out hb8)
    rw [HXA.out, hE] at h
    refine h.mono fun e w' ⟨⟨A, c, h1, h2⟩, h3⟩ => ?_
    obtain ⟨A', c', e2, _, h4⟩ := own_sl encSp_len h2
    injection e2 with e2 _ _
    subst e2
    exact ⟨⟨_, c, h1, h4⟩, h3⟩)
  have HXB : Hid (∀ d, hasb E d = (decide (F ≤ d) && decide (d < F + m) && emD X.a d)) := Lib.hid fun d => hasb_eq hE2 d
  have HSU : Hid (sumS E = cntB (emD X.a) F m.toNat) := Lib.hid (by rw [hE3, show F + m - F = m by omega])
  have HSE : Hid (SepS E (F + m) ∧ ∀ s ∈ E, F ≤ s.1) := Lib.hid ⟨hE1, hE4⟩
  have HFI : Hid (∀ W, Below w8.heap.size w8 W → Calls Tryz.prog 29 #[.agg #[.slice AV T.length T.length], .int .u32 pe] W fun e w' => e = .returned (.tuple #[.int .i64 ((endsX X.a).foldl (minP (calP X.a)) (0, false)).1, .bool ((endsX X.a).foldl (minP (calP X.a)) (0, false)).2]) ∧ Below W.heap.size W w') := Lib.hid fun W hW => by
    have h := tm_First T AV T.length pe W (by omega) (HS6.out.below (bTrans hb8 hW)) (tabBel HC6.out (bTrans hb8 hW))
    rw [HXA.out, first_law X.a HXF.out] at h
    exact h
  have HV8 := Lib.hid (bk_bel HV6.out hb8)
  have HP8 := Lib.hid (bk_bel HP6.out hb8)
  have HBW8 : Hid (Below w.heap.size w w8) := Lib.hid (bTrans HBW6.out hb8)
  have HE := Lib.hid (And.intro hfb hw8)
  have HVE := Lib.hid (And.intro e0 (And.intro e1 (And.intro e2 (And.intro e3 e4))))
  clear hfb hw8 hb7 hb78 hb8 hV HFA HS6 HV6 HP6 HBW6 HC6 HXL HXT HXE HTX HTF HXF HXA hs0 C0 e0 e1 e2 e3 e4 hE hE1 hE2 hE3 hE4 HB8
  rw [HVE.out.1, HVE.out.2.1, HVE.out.2.2.1, HVE.out.2.2.2.1, HVE.out.2.2.2.2]
  clear HVE
  go_upto_region 6 with fail
  rw [HE.out.1, HE.out.2]
  clear HE
  have C0 : w8.cell? ⟨vb, 0, none⟩ = some (.slice AV T.length T.length) := HV8.out.cell 0
  have C1 : w8.cell? ⟨sb, 0, none⟩ = some (.int .i64 F) := HP8.out.cell 0
  have C2 : w8.cell? ⟨sb, 1, none⟩ = some (.int .i64 (F + m)) := HP8.out.cell 1
  go_wp2_with fail
  refine HEM.out.mono ?_
  rintro e w9 ⟨⟨AE, cE, rfl, hs9⟩, hb9⟩
  obtain ⟨eb, heb⟩ : ∃ z, w9.heap.size = z := ⟨_, rfl⟩
  obtain ⟨wB, hwB⟩ : ∃ z, w9.alloc (.cells #[.slice AE E.length cE] 74) = z := ⟨_, rfl⟩
  have hb9B : Below w9.heap.size w9 wB := by rw [← hwB]; exact bAlloc _ _
  have hbB : Below w8.heap.size w8 wB := bTrans hb9 hb9B
  have hkB : Bk eb 74 #[.slice AE E.length cE] wB := by rw [← hwB, ← heb]; exact Bk.new _ _ _
  have HKB : Hid (∀ W, Below wB.heap.size wB W → W.cell? ⟨eb, 0, none⟩ = some (.slice AE E.length cE) ∧ (W.cell? ⟨fb, 0, none⟩ = some (.slice A0 X.a.length c0) ∧ W.cell? ⟨fb, 1, none⟩ = some (.slice A1 n1 c1) ∧ W.cell? ⟨fb, 2, none⟩ = some (.slice A2 n2 c2) ∧ W.cell? ⟨fb, 3, none⟩ = some (.slice A3 n3 c3) ∧ W.cell? ⟨fb, 4, none⟩ = some (.slice A4 n4 c4)) ∧ W.cell? ⟨vb, 0, none⟩ = some (.slice AV T.length T.length) ∧ W.cell? ⟨sb, 0, none⟩ = some (.int .i64 F) ∧ W.cell? ⟨sb, 1, none⟩ = some (.int .i64 (F + m))) := Lib.hid fun W hW => by
    have hz := bTrans hbB hW
    exact ⟨bCell hW (hkB.cell 0), ⟨bCell hz (HF8.out.cell 0), bCell hz (HF8.out.cell 1), bCell hz (HF8.out.cell 2), bCell hz (HF8.out.cell 3), bCell hz (HF8.out.cell 4)⟩, bCell hz (HV8.out.cell 0), bCell hz (HP8.out.cell 0), bCell hz (HP8.out.cell 1)⟩
  have hEl : E.length ≤ 100000 := by have := (sep_sum HSE.out.1 HSE.out.2 (by omega)).1; omega
  have HHS : Hid (∀ d W, Below wB.heap.size wB W → Calls Tryz.prog 27 #[.agg #[.slice AE E.length cE], .int .i64 d] W fun e w' => e = .returned (.bool (hasb E d)) ∧ Below W.heap.size W w') := Lib.hid fun d W hW => sp_Has E AE cE d W hEl HSE.out.1 (sl_bel hs9 (bTrans hb9B hW))
  have HDA : Hid (∀ W, Below wB.heap.size wB W → Calls Tryz.prog 30 #[.agg #[.slice AE E.length cE]] W fun e w' => e = .returned (.int .i64 (cntB (emD X.a) F m.toNat)) ∧ Below W.heap.size W w') := Lib.hid fun W hW => by
    have h := sp_Days E AE cE W hEl HSE.out.1 (F := F) HSE.out.2 (by omega) (by omega) (by omega) (sl_bel hs9 (bTrans hb9B hW))
    rw [HSU.out] at h
    exact h
  have HAB : Hid (∀ d W, Below wB.heap.size wB W → _) := Lib.hid fun d W hW => HAT.out d W (bTrans hbB hW)
  have HFB : Hid (∀ W, Below wB.heap.size wB W → _) := Lib.hid fun W hW => HFI.out W (bTrans hbB hW)
  have HZB : Hid (Sl encR 5 wB wB.heap.size A0 X.a) := Lib.hid (sl_bel HZ8.out hbB)
  have HBWB : Hid (Below w.heap.size w wB) := Lib.hid (bTrans HBW8.out hbB)
  have HE := Lib.hid (And.intro heb hwB)
  clear heb hwB hb9B hbB hkB hs9 hb9 HAT HFI HZ8 HBW8 HEM HF8 HV8 HP8 C0 C1 C2 HSE HSU
  go_upto_region 7 with fail
  rw [HE.out.1, HE.out.2]
  clear HE
  obtain ⟨M, rfl⟩ : ∃ M : Nat, m = (M : Int) := ⟨m.toNat, by omega⟩
  obtain ⟨p, hp⟩ : ∃ p, emD X.a = p := ⟨_, rfl⟩
  have HPC : Hid (∀ d, calP X.a d = (decide (-25567 ≤ d ∧ d ≤ 84005) && p d)) := Lib.hid fun d => by unfold calP; rw [hp]
  rw [hp] at HXB HAB HDA
  obtain ⟨pc, hpc⟩ : ∃ pc, calP X.a = pc := ⟨_, rfl⟩
  rw [hpc] at HPC HFB
  rw [show ((M : Int)).toNat = M from rfl] at HDA
  clear hp hpc
  obtain ⟨_, _, _, C1, C2⟩ := HKB.out _ (Below.refl _ _)
  go_wp2
  clear C1 C2
  go_loopw [11, 12] (fun nv dv wr => ∃ k : Nat, k ≤ M + 2 ∧ dv = .int .i64 (F - 1 + k) ∧ nv = .int .i64 (cntK p F M k) ∧ Hid (Below wB.heap.size wB wr)) (fun _ dv _ => (F + M + 1 - intOf dv).toNat)
  case atStart => exact ⟨0, by omega, by first | rfl | (congr 1; omega) | (simp; done), rfl, Lib.hid (Below.refl _ _)⟩
  case round =>
    obtain ⟨k, hk, rfl, rfl, HB⟩ := hrel
    obtain ⟨wo, hwo⟩ : ∃ x : World, x = wr := ⟨_, rfl⟩
    subst hwo
    obtain ⟨CE, ⟨CF0, CF1, CF2, CF3, CF4⟩, CV, C1, C2⟩ := HKB.out _ HB.out
    obtain ⟨D, hD⟩ : ∃ D : Int, F - 1 + k = D := ⟨_, rfl⟩
    obtain ⟨n, hn⟩ : ∃ n, cntK p F M k = n := ⟨_, rfl⟩
    have hn0 : 0 ≤ n ∧ n ≤ M := by rw [← hn]; exact cntK_le _ _ _ _
    have HN := Lib.hid hn
    rw [hn, hD]
    clear hn
    by_cases hlt : k < M + 2
    · have HH := Lib.hid (HXB.out D)
      have HNX : Hid (F - 1 + ((k + 1 : Nat) : Int) = D + 1) := Lib.hid (by omega)
      have hle : D ≤ F + M := by omega
      have hDb : -30000 ≤ D ∧ D ≤ 90000 := by omega
      by_cases hin : F ≤ D ∧ D < F + M
      · obtain ⟨hin1, hin2⟩ := hin
        obtain ⟨pb, hpb⟩ : ∃ pb, p D = pb := ⟨_, rfl⟩
        have HST : Hid (cntK p F M (k + 1) = n + if pb = true then 1 else 0) := Lib.hid (by rw [cntK_in p F (by omega) (by omega), HN.out, hD, hpb])
        have HHV : Hid (hasb E D = pb) := Lib.hid (by rw [HH.out, decide_eq_true hin1, decide_eq_true hin2, hpb]; rfl)
        have HAD := Lib.hid (HAB.out D _ HB.out)
        rw [hpb] at HAD
        clear hpb hD HH
        go_wp2_with fail
        refine HAD.out.mono ?_
        rintro e wn ⟨⟨s, q, x0, x1, x2, x3, x4, x5, x6, co, rfl⟩, hbn⟩
        have HBN : Hid (Below wB.heap.size wB wn) := Lib.hid (bTrans HB.out hbn)
        have hfl := run_fRT pb s q x0 x1 x2 x3 x4 x5 x6 co
        clear hbn CE CF0 CF1 CF2 CF3 CF4 CV C1 C2 HAD
        obtain ⟨CE, _⟩ := HKB.out _ HBN.out
        go_wp2_with fail
        refine (HHS.out D _ HBN.out).mono ?_
        rintro e wm ⟨rfl, hbm⟩
        have HBM : Hid (Below wB.heap.size wB wm) := Lib.hid (bTrans HBN.out hbm)
        rw [HHV.out]
        clear hbm CE
        cases pb with
        | true =>
          go_wp2
          exact ⟨⟨k + 1, by omega, by rw [HNX.out], by rw [HST.out]; rfl, HBM⟩, by simp [intOf]; omega⟩
        | false =>
          go_wp2
          exact ⟨⟨k + 1, by omega, by rw [HNX.out], by rw [HST.out]; simp, HBM⟩, by simp [intOf]; omega⟩
      · have HHV : Hid (hasb E D = false) := Lib.hid (by
          rw [HH.out]
          by_cases h1 : F ≤ D
          · rw [decide_eq_false (p := D < F + M) (by omega)]; simp
          · rw [decide_eq_false h1]; rfl)
        have HST : Hid (cntK p F M (k + 1) = n) := Lib.hid (by rw [cntK_out p F (by omega), HN.out])
        have hio : D < F ∨ (F ≤ D ∧ ¬ D < F + M) := by omega
        clear hD HH hin
        rcases hio with h1 | ⟨h1, h2⟩
        · have h3 : ¬ F ≤ D := by omega
          go_wp2_with fail
          refine (HHS.out D _ HB.out).mono ?_
          rintro e wm ⟨rfl, hbm⟩
          have HBM : Hid (Below wB.heap.size wB wm) := Lib.hid (bTrans HB.out hbm)
          rw [HHV.out]
          clear hbm CE CF0 CF1 CF2 CF3 CF4 CV C1 C2
          go_wp2
          exact ⟨⟨k + 1, by omega, by rw [HNX.out], by rw [HST.out], HBM⟩, by simp [intOf]; omega⟩
        · go_wp2_with fail
          refine (HHS.out D _ HB.out).mono ?_
          rintro e wm ⟨rfl, hbm⟩
          have HBM : Hid (Below wB.heap.size wB wm) := Lib.hid (bTrans HB.out hbm)
          rw [HHV.out]
          clear hbm CE CF0 CF1 CF2 CF3 CF4 CV C1 C2
          go_wp2
          exact ⟨⟨k + 1, by omega, by rw [HNX.out], by rw [HST.out], HBM⟩, by simp [intOf]; omega⟩
    · have hgt : F + M < D := by omega
      have hgt2 : ¬ D ≤ F + M := by omega
      have hnE : n = cntB p F M := by rw [← HN.out]; unfold cntK; rw [show min (k - 1) M = M by omega]
      subst hnE
      clear hD hlt hk CE CF0 CF1 CF2 CF3 CF4 CV HN
      obtain ⟨n, hn⟩ : ∃ n, cntB p F M = n := ⟨_, rfl⟩
      rw [hn] at HDA hn0 ⊢
      clear hn HXB HHS
      go_upto_region 17 with fail
      clear C1 C2 hgt hgt2
      go_wp2
      go_loopw [14, 15, 16] (fun fv hv iv wr => ∃ i : Nat, i ≤ X.a.length ∧ iv = .int .i64 i ∧ (∃ S : Int × Bool, fv = .int .i64 S.1 ∧ hv = .bool S.2 ∧ Hid ((endsX (X.a.take i)).foldl (minP pc) (0, false) = S)) ∧ Hid (Below wB.heap.size wB wr)) (fun _ _ iv _ => X.a.length - (intOf iv).toNat)
      case atStart => exact ⟨0, Nat.zero_le _, rfl, ⟨(0, false), rfl, rfl, Lib.hid rfl⟩, HB⟩
      case round =>
        clear HB
        obtain ⟨i, hi, rfl, ⟨⟨fi, hs⟩, rfl, rfl, HS⟩, HB⟩ := hrel
        obtain ⟨wo, hwo⟩ : ∃ x : World, x = wr := ⟨_, rfl⟩
        subst hwo
        simp only
        obtain ⟨CE, ⟨CF0, CF1, CF2, CF3, CF4⟩, CV, C1, C2⟩ := HKB.out _ HB.out
        by_cases hlt : i < X.a.length
        · obtain ⟨x, hx⟩ : ∃ x, X.a[i]? = some x := ⟨_, List.getElem?_eq_getElem hlt⟩
          obtain ⟨g, o, hA0, _, hat⟩ := HZB.out (by intro h; simp [h] at hlt)
          have HXC : Hid (∀ W, Below wo.heap.size wo W → W.cell? ⟨g, o + i * 5 + 1, none⟩ = some (.int .i64 x.2.fr) ∧ W.cell? ⟨g, o + i * 5 + 2, none⟩ = some (.int .i64 x.2.to)) := Lib.hid fun W hW => ⟨bCell (bTrans HB.out hW) (hat i x hx 1 _ rfl), bCell (bTrans HB.out hW) (hat i x hx 2 _ rfl)⟩
          have HSX := Lib.hid (ends_step hx pc (0, false))
          subst hA0
          clear hat hx
          go_upto_region 20 with fail
          clear CE CF0 CF1 CF2 CF3 CF4 CV C1 C2
          refine wp_region_use (SPS [(9, Sp.val (.pointer (some ⟨fb, 0, none⟩))), (16, Sp.val (.int .i64 i)), (81, Sp.val (.pointer (some ⟨fb, 0, none⟩))), (82, Sp.val (.slice (some ⟨g, o, none⟩) X.a.length c0)), (84, Sp.val (.pointer (some ⟨g, o + i * 5, none⟩))), (85, Sp.val (.pointer (some ⟨g, o + i * 5 + 1, none⟩))), (86, Sp.val (.int .i64 x.2.fr)), (87, Sp.val (.pointer (some ⟨fb, 0, none⟩))), (88, Sp.val (.slice (some ⟨g, o, none⟩) X.a.length c0)), (90, Sp.val (.pointer (some ⟨g, o + i * 5, none⟩))), (91, Sp.val (.pointer (some ⟨g, o + i * 5 + 2, none⟩))), (92, Sp.val (.int .i64 x.2.to)), (93, (spTwo wo.heap.size x.2.fr x.2.to)), (17, (spTwo wo.heap.size x.2.fr x.2.to)), (83, Sp.val (.int .i64 i)), (89, Sp.val (.int .i64 i))]) [] [81, 82, 83, 84, 85, 86, 87, 88, 89, 90, 91, 92, 93, 17] rfl (by rfl) (by kernel_rfl) (SPS.st _) (by rfl) ?_ (opsK_all ?_) ?_
          · exact sps_start (cons_all rfl (cons_all rfl (nil_all)))
          · refine opsK_cons (by
             exact use_s [] (opOk_run rfl (.inl rfl) (fun a W hW hsp => by
                have e9 : a.eval (.tmp 9) = .pointer (some ⟨fb, 0, none⟩) := (hsp 9 (by kernel_rfl)).get rfl
                refine ⟨.pointer (some ⟨fb, 0, none⟩), ?_, sps rfl rfl⟩
                unfold execOp
                simp only [e9]
                go_simp)) (by kernel_rfl) (by rfl)) ?_
            refine opsK_cons (by
             exact use_s [] (opOk_load (p := ⟨fb, 0, none⟩) rfl rfl (.inl rfl) (by kernel_rfl) (fun _ _ h => h.get rfl) (fun W hW => by
                obtain ⟨k0, ⟨k1, k2, k3, k4, k5⟩, k6, k7, k8⟩ := HKB.out _ (bTrans HB.out hW)
                exact ⟨.slice (some ⟨g, o, none⟩) X.a.length c0, by go_simp, sps rfl rfl⟩)) (by kernel_rfl) (by rfl)) ?_
            refine opsK_cons (by
             exact use_s [] (opOk_move rfl rfl (.inl rfl) (by kernel_rfl) (fun _ _ h => sps rfl (h.get rfl))) (by kernel_rfl) (by rfl)) ?_
            refine opsK_cons (by
             exact use_s [] (opOk_run rfl (.inl rfl) (fun a W hW hsp => by
                have e82 : a.eval (.tmp 82) = .slice (some ⟨g, o, none⟩) X.a.length c0 := (hsp 82 (by kernel_rfl)).get rfl
                have e83 : a.eval (.tmp 83) = .int .i64 i := (hsp 83 (by kernel_rfl)).get rfl
                have hil2 : (i : Int) < (X.a.length : Int) := by omega
                have q83 : a.tmps[83]?.getD undef = .int .i64 i := by rw [← Array.getD_eq_getD_getElem?]; exact e83
                refine ⟨.pointer (some ⟨g, o + i * 5, none⟩), ?_, sps rfl rfl⟩
                unfold execOp
                simp only [e82, e83]
                go_simp)) (by kernel_rfl) (by rfl)) ?_
            refine opsK_cons (by
             exact use_s [] (opOk_run rfl (.inl rfl) (fun a W hW hsp => by
                have e84 : a.eval (.tmp 84) = .pointer (some ⟨g, o + i * 5, none⟩) := (hsp 84 (by kernel_rfl)).get rfl
                refine ⟨.pointer (some ⟨g, o + i * 5 + 1, none⟩), ?_, sps rfl rfl⟩
                unfold execOp
                simp only [e84]
                go_simp)) (by kernel_rfl) (by rfl)) ?_
            refine opsK_cons (by
             exact use_s [] (opOk_load (p := ⟨g, o + i * 5 + 1, none⟩) rfl rfl (.inl rfl) (by kernel_rfl) (fun _ _ h => h.get rfl) (fun W hW => by
                obtain ⟨x1, x2⟩ := HXC.out _ hW
                exact ⟨.int .i64 x.2.fr, by go_simp, sps rfl rfl⟩)) (by kernel_rfl) (by rfl)) ?_
            refine opsK_cons (by
             exact use_s [] (opOk_run rfl (.inl rfl) (fun a W hW hsp => by
                have e9 : a.eval (.tmp 9) = .pointer (some ⟨fb, 0, none⟩) := (hsp 9 (by kernel_rfl)).get rfl
                refine ⟨.pointer (some ⟨fb, 0, none⟩), ?_, sps rfl rfl⟩
                unfold execOp
                simp only [e9]
                go_simp)) (by kernel_rfl) (by rfl)) ?_
            refine opsK_cons (by
             exact use_s [] (opOk_load (p := ⟨fb, 0, none⟩) rfl rfl (.inl rfl) (by kernel_rfl) (fun _ _ h => h.get rfl) (fun W hW => by
                obtain ⟨k0, ⟨k1, k2, k3, k4, k5⟩, k6, k7, k8⟩ := HKB.out _ (bTrans HB.out hW)
                exact ⟨.slice (some ⟨g, o, none⟩) X.a.length c0, by go_simp, sps rfl rfl⟩)) (by kernel_rfl) (by rfl)) ?_
            refine opsK_cons (by
             exact use_s [] (opOk_move rfl rfl (.inl rfl) (by kernel_rfl) (fun _ _ h => sps rfl (h.get rfl))) (by kernel_rfl) (by rfl)) ?_
            refine opsK_cons (by
             exact use_s [] (opOk_run rfl (.inl rfl) (fun a W hW hsp => by
                have e88 : a.eval (.tmp 88) = .slice (some ⟨g, o, none⟩) X.a.length c0 := (hsp 88 (by kernel_rfl)).get rfl
                have e89 : a.eval (.tmp 89) = .int .i64 i := (hsp 89 (by kernel_rfl)).get rfl
                have hil2 : (i : Int) < (X.a.length : Int) := by omega
                have q89 : a.tmps[89]?.getD undef = .int .i64 i := by rw [← Array.getD_eq_getD_getElem?]; exact e89
                refine ⟨.pointer (some ⟨g, o + i * 5, none⟩), ?_, sps rfl rfl⟩
                unfold execOp
                simp only [e88, e89]
                go_simp)) (by kernel_rfl) (by rfl)) ?_
            refine opsK_cons (by
             exact use_s [] (opOk_run rfl (.inl rfl) (fun a W hW hsp => by
                have e90 : a.eval (.tmp 90) = .pointer (some ⟨g, o + i * 5, none⟩) := (hsp 90 (by kernel_rfl)).get rfl
                refine ⟨.pointer (some ⟨g, o + i * 5 + 2, none⟩), ?_, sps rfl rfl⟩
                unfold execOp
                simp only [e90]
                go_simp)) (by kernel_rfl) (by rfl)) ?_
            refine opsK_cons (by
             exact use_s [] (opOk_load (p := ⟨g, o + i * 5 + 2, none⟩) rfl rfl (.inl rfl) (by kernel_rfl) (fun _ _ h => h.get rfl) (fun W hW => by
                obtain ⟨x1, x2⟩ := HXC.out _ hW
                exact ⟨.int .i64 x.2.to, by go_simp, sps rfl rfl⟩)) (by kernel_rfl) (by rfl)) ?_
            refine opsK_cons (by
             exact use_s [] (opOk_new rfl (.inl rfl) (fun a W hW hsp => by
                have e86 : a.eval (.tmp 86) = .int .i64 x.2.fr := (hsp 86 (by kernel_rfl)).get rfl
                have e92 : a.eval (.tmp 92) = .int .i64 x.2.to := (hsp 92 (by kernel_rfl)).get rfl
                exact ⟨_, _, build_two rfl e86 e92 W, sps rfl ⟨W.heap.size, rfl, hW.size, Bk.new _ _ _⟩⟩)) (by kernel_rfl) (by rfl)) ?_
            refine opsK_cons (by
             exact use_s [] (opOk_assign rfl rfl (.inl rfl) (by kernel_rfl) (fun _ _ h => sps rfl (h.get rfl))) (by kernel_rfl) (by rfl)) ?_
            exact opsK_nil
          · intro vs W hb hsp
            obtain ⟨lb, hv, hlb, hk⟩ := (hsp 17 (by simp)).get rfl
            simp only [putAll]
            go_simp
            obtain ⟨wl, hwl⟩ : ∃ x : World, x = W := ⟨_, rfl⟩
            subst hwl
            have HBL : Hid (Below wB.heap.size wB wl) := Lib.hid (bTrans HB.out hb)
            have HKL : Hid (∀ k : Nat, k < 2 → ∀ W, Below wl.heap.size wl W → W.cell? ⟨lb, k, none⟩ = some (.int .i64 (endK x k))) := Lib.hid fun k hk2 W hW => by
              obtain rfl | rfl : k = 0 ∨ k = 1 := by omega
              · exact bCell hW (hk.cell 0)
              · exact bCell hW (hk.cell 1)
            obtain ⟨S, hS⟩ : ∃ S : Int × Bool, (fi, hs) = S := ⟨_, rfl⟩
            have HSF : Hid ((endsX (X.a.take (i + 1))).foldl (minP pc) (0, false) = half x pc S 2) := Lib.hid (by rw [HSX.out, HS.out, hS]; rfl)
            have HS0 := Lib.hid hS
            have hlt2 : (i : Int) < (X.a.length : Int) := by omega
            clear hv hk hlb hb hsp HB HXC HSX HS hS
            go_step
            go_wp2
            go_loopw [14, 15, 18] (fun fv hv kv wr => ∃ k : Nat, k ≤ 2 ∧ kv = .int .i64 k ∧ (∃ S2 : Int × Bool, fv = .int .i64 S2.1 ∧ hv = .bool S2.2 ∧ Hid (half x pc S k = S2)) ∧ Hid (Below wl.heap.size wl wr)) (fun _ _ kv _ => 2 - (intOf kv).toNat)
            case atStart => exact ⟨0, by omega, rfl, ⟨(fi, hs), rfl, rfl, Lib.hid HS0.out.symm⟩, Lib.hid (Below.refl _ _)⟩
            case round =>
              obtain ⟨k, hk, rfl, ⟨⟨gi, hg⟩, rfl, rfl, HSK⟩, HB⟩ := hrel
              obtain ⟨wq, hwq⟩ : ∃ x : World, x = wr := ⟨_, rfl⟩
              subst hwq
              simp only
              by_cases hk2 : k < 2
              · obtain ⟨D2, hD2⟩ : ∃ D2, endK x k = D2 := ⟨_, rfl⟩
                have L0 : wq.cell? ⟨lb, k, none⟩ = some (.int .i64 D2) := by rw [← hD2]; exact HKL.out k hk2 _ HB.out
                have HST : Hid (half x pc S (k + 1) = minP pc (gi, hg) D2) := Lib.hid (by rw [half_step x pc S hk2, HSK.out, hD2])
                have hk3 : (k : Int) < 2 := by omega
                have HBW : Hid (Below wB.heap.size wB wq) := Lib.hid (bTrans HBL.out HB.out)
                obtain ⟨_, ⟨CF0, CF1, CF2, CF3, CF4⟩, _, _, _⟩ := HKB.out _ HBW.out
                have HIN := Lib.hid (r4e_In D2 wq)
                obtain ⟨ic, hic⟩ : ∃ ic, decide (-25567 ≤ D2 ∧ D2 ≤ 84005) = ic := ⟨_, rfl⟩
                obtain ⟨pd, hpd⟩ : ∃ pd, p D2 = pd := ⟨_, rfl⟩
                have HPD : Hid (pc D2 = (ic && pd)) := Lib.hid (by rw [HPC.out, hic, hpd])
                have HAD := Lib.hid (HAB.out D2 _ HBW.out)
                rw [hpd] at HAD
                rw [hic] at HIN
                clear hpd hic hD2
                go_upto_region 25 with fail
                clear L0
                go_wp2_with fail
                refine HIN.out.mono ?_
                rintro e wz ⟨rfl, hwz⟩
                subst hwz
                cases ic with
                | false =>
                  have HMN : Hid (half x pc S (k + 1) = (gi, hg)) := Lib.hid (by rw [HST.out]; unfold minP; rw [HPD.out]; rfl)
                  clear CF0 CF1 CF2 CF3 CF4
                  go_wp2
                  exact ⟨⟨k + 1, by omega, by go_num, ⟨(gi, hg), rfl, rfl, HMN⟩, HB⟩, by simp [intOf]; omega⟩
                | true =>
                  go_wp2_with fail
                  refine HAD.out.mono ?_
                  rintro e wn ⟨⟨s, q, x0, x1, x2, x3, x4, x5, x6, co, rfl⟩, hbn⟩
                  have HBN : Hid (Below wl.heap.size wl wn) := Lib.hid (bTrans HB.out hbn)
                  have hfl := run_fRT pd s q x0 x1 x2 x3 x4 x5 x6 co
                  clear hbn CF0 CF1 CF2 CF3 CF4 HAD
                  cases pd with
                  | false =>
                    have HMN : Hid (half x pc S (k + 1) = (gi, hg)) := Lib.hid (by rw [HST.out]; unfold minP; rw [HPD.out]; rfl)
                    go_wp2
                    exact ⟨⟨k + 1, by omega, by go_num, ⟨(gi, hg), rfl, rfl, HMN⟩, HBN⟩, by simp [intOf]; omega⟩
                  | true =>
                    cases hg with
                    | false =>
                      have HMN : Hid (half x pc S (k + 1) = (D2, true)) := Lib.hid (by rw [HST.out]; unfold minP; rw [HPD.out]; rfl)
                      go_wp2
                      exact ⟨⟨k + 1, by omega, by go_num, ⟨(D2, true), rfl, rfl, HMN⟩, HBN⟩, by simp [intOf]; omega⟩
                    | true =>
                      by_cases hlg : D2 < gi
                      · have HMN : Hid (half x pc S (k + 1) = (D2, true)) := Lib.hid (by rw [HST.out]; unfold minP; rw [HPD.out, decide_eq_true (show D2 < (gi, true).1 from hlg)]; rfl)
                        go_wp2
                        exact ⟨⟨k + 1, by omega, by go_num, ⟨(D2, true), rfl, rfl, HMN⟩, HBN⟩, by simp [intOf]; omega⟩
                      · have HMN : Hid (half x pc S (k + 1) = (gi, true)) := Lib.hid (by rw [HST.out]; unfold minP; rw [HPD.out, decide_eq_false (show ¬ D2 < (gi, true).1 from hlg)]; rfl)
                        go_wp2
                        exact ⟨⟨k + 1, by omega, by go_num, ⟨(gi, true), rfl, rfl, HMN⟩, HBN⟩, by simp [intOf]; omega⟩
              · obtain rfl : k = 2 := by omega
                have HBF : Hid (Below wB.heap.size wB wq) := Lib.hid (bTrans HBL.out HB.out)
                have HSN : Hid ((endsX (X.a.take (i + 1))).foldl (minP pc) (0, false) = (gi, hg)) := Lib.hid (by rw [HSF.out, HSK.out])
                clear hk2
                go_wp2
                exact ⟨⟨i + 1, by omega, by go_num, ⟨(gi, hg), rfl, rfl, HSN⟩, HBF⟩, by simp [intOf]; omega⟩
        · obtain rfl : i = X.a.length := by omega
          have HSE2 : Hid ((endsX X.a).foldl (minP pc) (0, false) = (fi, hs)) := Lib.hid (by
            have h := HS.out
            rwa [List.take_length] at h)
          have HFF := Lib.hid (HFB.out _ HB.out)
          rw [HSE2.out] at HFF
          have hlt2 : ¬ (X.a.length : Int) < (X.a.length : Int) := by omega
          clear hlt HS HFB
          go_wp2_with fail
          refine HFF.out.mono ?_
          rintro e wn ⟨rfl, hbn⟩
          have HBN : Hid (Below wB.heap.size wB wn) := Lib.hid (bTrans HB.out hbn)
          clear hbn CE CF0 CF1 CF2 CF3 CF4 CV C1 C2 HFF
          obtain ⟨CE, _⟩ := HKB.out _ HBN.out
          go_wp2_with fail
          refine (HDA.out _ HBN.out).mono ?_
          rintro e wm ⟨rfl, hbm⟩
          have HBM : Hid (Below w.heap.size w wm) := Lib.hid (bTrans HBWB.out (bTrans HBN.out hbm))
          clear hbm CE
          go_wp2_with fail
          refine (HAW.out _ HBM.out).mono ?_
          rintro e wz ⟨rfl, hbz⟩
          have HBZ : Hid (Below w.heap.size w wz) := Lib.hid (bTrans HBM.out hbz)
          clear hbz
          go_wp2
          go_ret
          exact ⟨rfl, HBZ.out⟩
end Go.Proofs.YtlgoaohklggcdaaGreatDoor
