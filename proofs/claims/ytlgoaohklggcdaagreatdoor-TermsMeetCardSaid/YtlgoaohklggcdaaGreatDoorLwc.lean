import Derived.Test.YtlgoaohklggcdaaGreatDoorLwh
/- law16.TermsMeet. Printed by gen/mklw16c.py. -/
namespace Go.Proofs.YtlgoaohklggcdaaGreatDoor
open Go.RowKit Go.Sort

/-- The pieces of two spans that meet. -/
def jnL (e : Int → Int → Bool) (O : List Spn) : List Spn → List Spn
  | [] => O
  | p :: P => mrgS e O p ++ P
theorem jn_one {e : Int → Int → Bool} {O P : List Spn} {p : Spn} (h : P[0]? = some p) : jnL e O (P.take (0 + 1)) = mrgS e O p := by
  cases P with
  | nil => simp at h
  | cons q P =>
    obtain rfl : q = p := by simpa using h
    show mrgS e O q ++ [] = _
    rw [List.append_nil]
theorem jn_more {e : Int → Int → Bool} {O P : List Spn} {p : Spn} {k : Nat} (hk : 0 < k) (h : P[k]? = some p) : jnL e O (P.take (k + 1)) = jnL e O (P.take k) ++ [p] := by
  cases P with
  | nil => simp at h
  | cons q P =>
    cases k with
    | zero => exact absurd hk (Nat.lt_irrefl _)
    | succ k =>
      have h2 : P[k]? = some p := by simpa using h
      show mrgS e O q ++ P.take (k + 1) = (mrgS e O q ++ P.take k) ++ [p]
      rw [List.take_add_one, h2, List.append_assoc]
      rfl
theorem jn_len (e : Int → Int → Bool) (O : List Spn) : ∀ P : List Spn, (jnL e O P).length ≤ O.length + P.length
  | [] => Nat.le_refl _
  | p :: P => by
    show (mrgS e O p ++ P).length ≤ _
    have := mrgS_len e p O
    rw [List.length_append, List.length_cons]
    omega
theorem jn_all {e : Int → Int → Bool} (he : Eqv e) {F b T : Int} (h1 : F ≤ b) (h2 : b ≤ T) : jnL e (runsOf e F b) (runsOf e b T) = runsOf e F T := by
  refine Runs.one ?_ (runsOf_runs he (Int.le_trans h1 h2))
  have k1 := runsOf_runs he h1
  have k2 := runsOf_runs he h2
  generalize runsOf e b T = P at k2 ⊢
  cases P with
  | nil => exact Runs.join he k1 k2
  | cons p P => exact Runs.join he k1 k2
theorem of_cal {X : Ls} {F U : Int} (h1 : -25567 ≤ F) (h2 : F ≤ U) (h3 : U ≤ 84006) : ofL X F U = runsOf (eT X) F U ∧ ofE F U = 0 := by
  by_cases hm : F = U
  · subst hm
    rw [runsOf_nil (by omega)]
    exact ⟨if_pos (by omega), if_pos (by omega)⟩
  · exact of_in (by omega) ⟨by omega, by omega⟩
theorem runs_len (e : Int → Int → Bool) (F U : Int) : (runsOf e F U).length ≤ (U - F).toNat := by
  have h1 := mrg_len e (dayP F (U - F).toNat) []
  rw [dayP_len] at h1
  simp only [List.length_nil] at h1
  show ((dayP F (U - F).toNat).foldl (mrgS e) []).length ≤ _
  omega
set_option maxHeartbeats 4000000 in
set_option maxRecDepth 100000 in
theorem run_neT (x : Td) (a b : Int) (w : World) : (binOp .neq 50 (.agg #[.int .i64 a, .int .i64 b, .bool x.em, .int .i64 x.sa, .int .i64 x.pa, .int .i64 (x.h 0), .int .i64 (x.h 1), .int .i64 (x.h 2), .int .i64 (x.h 3), .int .i64 (x.h 4), .int .i64 (x.h 5), .int .i64 (x.h 6), .string x.co])  (.agg #[.int .i64 a, .int .i64 b, .bool x.em, .int .i64 x.sa, .int .i64 x.pa, .int .i64 (x.h 0), .int .i64 (x.h 1), .int .i64 (x.h 2), .int .i64 (x.h 3), .int .i64 (x.h 4), .int .i64 (x.h 5), .int .i64 (x.h 6), .string x.co])).run Tryz.prog w = .ok (.bool false) w := by
  have hw := eqW x.h x.h
  rw [show eq7 x.h x.h = true from by simp [eq7]] at hw
  go_simp
/-- What stays while a piece is put behind the others. -/
structure MeI (X : Ls) (wB : World) (tb : Nat) (v : Value) (O : List Spn) (t : Td) (a b : Int) (W : World) : Prop where
  own : OwnO X wB.heap.size v O W
  tk : Bk tb 50 #[.int .i64 a, .int .i64 b, .bool t.em, .int .i64 t.sa, .int .i64 t.pa, .int .i64 (t.h 0), .int .i64 (t.h 1), .int .i64 (t.h 2), .int .i64 (t.h 3), .int .i64 (t.h 4), .int .i64 (t.h 5), .int .i64 (t.h 6), .string t.co] W
  below : Below wB.heap.size wB W
  far1 : wB.heap.size ≤ tb
  far3 : v.ownBlock ≠ some tb
theorem MeI.set_ {X : Ls} {wB : World} {tb : Nat} {v : Value} {O : List Spn} {t : Td} {a b : Int} {W : World} (h : MeI X wB tb v O t a b W) (c d : Int) : MeI X wB tb v O t c d ((W.setCell ⟨tb, 0, none⟩ (.int .i64 c)).setCell ⟨tb, 1, none⟩ (.int .i64 d)) := by
  have hg : W.grownBy ((W.setCell ⟨tb, 0, none⟩ (.int .i64 c)).setCell ⟨tb, 1, none⟩ (.int .i64 d)) (some tb) := grown_trans (gSet _ _ _) (gSet _ _ _)
  exact ⟨h.own.kept hg (.inr h.far3), (h.tk.set_ 0 (.int .i64 c)).set_ 1 (.int .i64 d), (h.below.setCell (p := ⟨tb, 0, none⟩) h.far1 _).setCell (p := ⟨tb, 1, none⟩) h.far1 _, h.far1, h.far3⟩
theorem MeI.drewN {X : Ls} {wB : World} {tb : Nat} {v : Value} {O : List Spn} {t : Td} {a b : Int} {W : World} (h : MeI X wB tb v O t a b W) (n : Nat) : MeI X wB tb v O t a b (W.drewN n) :=
  ⟨own_bel h.own (bDrewN W n), h.tk, h.below.trans ((bDrewN W n).mono h.below.size), h.far1, h.far3⟩
set_option maxHeartbeats 3000000 in
set_option maxRecDepth 100000 in
theorem lw_TermsMeet (l : List Fa) (A : Option Addr) (ca : Nat) (pe q0 q1 q2 : Int) (w : World) (hl : l.length ≤ 9223372036854775807) (fl : ∀ f ∈ l, FitW f) (hL : SlF w A l) (h0 : 0 ≤ q0 ∧ q0 ≤ 65535) (h1 : 0 ≤ q1 ∧ q1 ≤ 65535) (h2 : 0 ≤ q2 ∧ q2 ≤ 65535) (hT : Tb w) (hC : Tab w) :
    Calls Tryz.prog 5 #[.slice A l.length ca, .int .u32 pe, .agg #[.int .u16 q0, .int .u16 q1, .int .u16 q2]] w fun e w' => e = .returned (.bool true) ∧ Below w.heap.size w w' := by
  have HAW : Hid (∀ W, Below w.heap.size w W → Calls Tryz.prog 16 #[] W fun e w' => e = .returned (.bool true) ∧ Below W.heap.size W w') := Lib.hid fun W hW => la_awake16 W (hT.below hW) (tabBel hC hW)
  obtain ⟨ab, hab⟩ : ∃ z, w.heap.size = z := ⟨_, rfl⟩
  obtain ⟨w2, hw2⟩ : ∃ z, w.alloc (.cells #[.int .u16 q0, .int .u16 q1, .int .u16 q2] 58) = z := ⟨_, rfl⟩
  have hk2 : Bk ab 58 #[.int .u16 q0, .int .u16 q1, .int .u16 q2] w2 := by rw [← hw2, ← hab]; exact Bk.new _ _ _
  have hb2 : Below w.heap.size w w2 := by rw [← hw2]; exact bAlloc _ _
  have HB2 := Lib.hid hb2
  have HK2 := Lib.hid hk2
  have HC2 : Hid (Tab w2) := Lib.hid (tabBel hC hb2)
  by_cases h40 : (40 : Int) < (l.length : Int)
  · clear hab hw2 hk2 hb2 hL hT hC fl HK2 HC2
    go_enter Tryz.func5, Tryz.ntmps5
    go_wp2_with fail
    refine (HAW.out _ (bAlloc _ _)).mono ?_
    rintro e w3 ⟨rfl, hb3⟩
    have HF := Lib.hid (bTrans (bAlloc w (.cells #[.int .u16 q0, .int .u16 q1, .int .u16 q2] 58)) hb3)
    clear hb3
    go_wp2
    go_ret
    exact ⟨rfl, HF.out⟩
  have HTD : Hid (Calls Tryz.prog 17 #[.slice A l.length ca] w2 fun e w' => (∃ A2, e = .returned (.agg #[.slice A2 (tellL [] l).length (tellL [] l).length]) ∧ SlF w' A2 (tellL [] l)) ∧ Below w2.heap.size w2 w') := Lib.hid (la_told16 l A ca w2 (by omega) fl (hL.below hb2) (hT.below hb2))
  obtain ⟨T, hTT⟩ : ∃ T, tellL [] l = T := ⟨_, rfl⟩
  have hTl : T.length ≤ 40 := by rw [← hTT]; have := told_len l; omega
  have HTX : Hid (∀ f ∈ T, f.tx.size ≤ 1000000) := Lib.hid (by rw [← hTT]; exact told_tx fl)
  rw [hTT] at HTD
  obtain ⟨X, hX⟩ : ∃ X, lsOf T pe = X := ⟨_, rfl⟩
  have HXE := Lib.hid hX
  have HE := Lib.hid (And.intro hab hw2)
  clear hab hw2 hk2 hb2 hL hT hC fl hTT hX
  go_enter Tryz.func5, Tryz.ntmps5
  go_upto_region 1 with fail
  rw [HE.out.1, HE.out.2]
  clear HE
  go_wp2_with fail
  refine HTD.out.mono ?_
  rintro e w3 ⟨⟨AV, rfl, hs3⟩, hb3⟩
  obtain ⟨vb, hvb⟩ : ∃ z, w3.heap.size = z := ⟨_, rfl⟩
  obtain ⟨w4, hw4⟩ : ∃ z, w3.alloc (.cells #[.slice AV T.length T.length] 27) = z := ⟨_, rfl⟩
  have hb4 : Below w3.heap.size w3 w4 := by rw [← hw4]; exact bAlloc _ _
  have HV4 : Hid (Bk vb 27 #[.slice AV T.length T.length] w4) := Lib.hid (by rw [← hw4, ← hvb]; exact Bk.new _ _ _)
  have HB4 : Hid (Below w2.heap.size w2 w4) := Lib.hid (bTrans hb3 hb4)
  have HS4 : Hid (SlF w4 AV T) := Lib.hid (hs3.below hb4)
  have AB0 : w4.cell? ⟨ab, 0, none⟩ = some (.int .u16 q0) := bCell HB4.out (HK2.out.cell 0)
  have AB1 : w4.cell? ⟨ab, 1, none⟩ = some (.int .u16 q1) := bCell HB4.out (HK2.out.cell 1)
  have AB2 : w4.cell? ⟨ab, 2, none⟩ = some (.int .u16 q2) := bCell HB4.out (HK2.out.cell 2)
  have HE := Lib.hid (And.intro hvb hw4)
  clear hvb hw4 hb3 hb4 hs3 HTD
  go_upto_region 4 with fail
  rw [HE.out.1, HE.out.2]
  clear HE
  go_upto_region 5 with fail
  go_quiet (fail)
  rename_i nq
  obtain ⟨w5, hw5⟩ : ∃ z, w4.drewN nq = z := ⟨_, rfl⟩
  have hb5 : Below w4.heap.size w4 w5 := by rw [← hw5]; exact bDrewN w4 nq
  have HV5 := Lib.hid (bk_bel HV4.out hb5)
  have HS5 := Lib.hid (HS4.out.below hb5)
  have HC5 : Hid (Tab w5) := Lib.hid (tabBel (tabBel HC2.out HB4.out) hb5)
  have HBW5 : Hid (Below w.heap.size w w5) := Lib.hid (bTrans HB2.out (bTrans HB4.out hb5))
  rw [hw5]
  clear hw5 hb5 AB0 AB1 AB2 HV4 HS4 HB2 HB4 HK2 HC2
  obtain ⟨F, hF⟩ : ∃ F : Int, 18000 + q0 % 4000 = F := ⟨_, rfl⟩
  obtain ⟨m, hm⟩ : ∃ m : Int, q1 % 900 = m := ⟨_, rfl⟩
  obtain ⟨n, hn⟩ : ∃ n : Int, q2 % 900 = n := ⟨_, rfl⟩
  have hF1 : 18000 ≤ F ∧ F ≤ 21999 := by omega
  have hm1 : 0 ≤ m ∧ m ≤ 899 := by omega
  have hn1 : 0 ≤ n ∧ n ≤ 899 := by omega
  rw [hF, hm, hn]
  clear hF hm hn
  obtain ⟨b, hb⟩ : ∃ b : Int, F + m = b := ⟨_, rfl⟩
  obtain ⟨c, hc⟩ : ∃ c : Int, b + n = c := ⟨_, rfl⟩
  have hFb : F ≤ b ∧ b ≤ c ∧ c ≤ 24000 := by omega
  rw [hb, hc]
  clear hb hc
  have HOF : Hid (∀ F U W, -25567 ≤ F → F ≤ U → U ≤ 84006 → Below w5.heap.size w5 W → Calls Tryz.prog 19 #[.agg #[.slice AV T.length T.length], .int .u32 pe, .agg #[.int .i64 F, .int .i64 U]] W fun e w' => ∃ A c, e = .returned (.tuple #[.slice A (runsOf (eT X) F U).length c, .int .i64 0]) ∧ OwnO X W.heap.size (.slice A (runsOf (eT X) F U).length c) (runsOf (eT X) F U) w' ∧ Below W.heap.size W w') := Lib.hid (fun F U W a1 a2 a3 hW => by
    have h := tm_Of T AV T.length pe F U W (by omega) (HS5.out.below hW) HTX.out (by omega) (by omega) (tabBel HC5.out hW)
    rw [HXE.out, (of_cal (X := X) a1 a2 a3).1, (of_cal (X := X) a1 a2 a3).2] at h
    exact h.mono fun e w' ⟨⟨A, c, h1, h2⟩, h3⟩ => ⟨A, c, h1, h2, h3⟩)
  have HOl : (runsOf (eT X) F b).length ≤ 7000 := Nat.le_trans (runs_len _ _ _) (by omega)
  have HPl : (runsOf (eT X) b c).length ≤ 7000 := Nat.le_trans (runs_len _ _ _) (by omega)
  have HZl : (runsOf (eT X) F c).length ≤ 7000 := Nat.le_trans (runs_len _ _ _) (by omega)
  have HJA := Lib.hid (jn_all (eT_eqv X) hFb.1 hFb.2.1)
  have HO1 := HOF.out F b w5 (by omega) (by omega) (by omega) (Below.refl _ _)
  have HO2 := Lib.hid (fun W h => HOF.out b c W (by omega) (by omega) (by omega) h)
  have HO3 := Lib.hid (fun W h => HOF.out F c W (by omega) (by omega) (by omega) h)
  obtain ⟨O, hO⟩ : ∃ O, runsOf (eT X) F b = O := ⟨_, rfl⟩
  obtain ⟨P, hP⟩ : ∃ P, runsOf (eT X) b c = P := ⟨_, rfl⟩
  obtain ⟨Z, hZ⟩ : ∃ Z, runsOf (eT X) F c = Z := ⟨_, rfl⟩
  rw [hO] at HO1 HOl HJA
  rw [hP] at HO2 HPl HJA
  rw [hZ] at HO3 HZl HJA
  have HO1 := Lib.hid HO1
  clear hO hP hZ HOF
  have V0 : w5.cell? ⟨vb, 0, none⟩ = some (.slice AV T.length T.length) := HV5.out.cell 0
  go_wp2_with fail
  refine HO1.out.mono ?_
  rintro e w6 ⟨Ax, cx, rfl, hx6, hb6⟩
  have HX6 := Lib.hid hx6
  have HB6 := Lib.hid hb6
  clear hx6 hb6 HO1 V0
  have V0 : w6.cell? ⟨vb, 0, none⟩ = some (.slice AV T.length T.length) := bCell HB6.out (HV5.out.cell 0)
  go_wp2_with fail
  refine (HO2.out _ HB6.out).mono ?_
  rintro e w7 ⟨Ay, cy, rfl, hy7, hb7⟩
  have HY7 := Lib.hid hy7
  have HX7 := Lib.hid (own_bel HX6.out hb7)
  have HB7 := Lib.hid (bTrans HB6.out hb7)
  clear hy7 hb7 HO2 V0 HB6 HX6
  have V0 : w7.cell? ⟨vb, 0, none⟩ = some (.slice AV T.length T.length) := bCell HB7.out (HV5.out.cell 0)
  go_wp2_with fail
  refine (HO3.out _ HB7.out).mono ?_
  rintro e wB ⟨Az, cz, rfl, hz8, hb8⟩
  have HZ8 := Lib.hid hz8
  have HX8 := Lib.hid (own_bel HX7.out hb8)
  have HY8 := Lib.hid (own_bel HY7.out hb8)
  have HBW : Hid (Below w.heap.size w wB) := Lib.hid (bTrans HBW5.out (bTrans HB7.out hb8))
  clear hz8 hb8 HO3 V0 HB7 HX7 HY7 HBW5 HV5 HS5 HC5 HTX HXE
  have HE0 : Hid (OwnO X wB.heap.size (.slice (some ⟨wB.heap.size, 0, none⟩) 0 0) [] (wB.alloc (.cells #[] 50))) := Lib.hid (own_empty (Bk.new wB _ #[]) (Nat.le_refl _))
  go_wp2_with ((at_builtin; refine wpList_append_rows (encO_len X) (encO_one X) rfl _ _ 34 rfl wB.heap.size _ 50 _ 112 Tryz.underlying34 termsInfo rfl (by decide) _ _ [] O rfl HE0.out rfl (HX8.out.alloc _) (by simp; omega) (by decide) (Nat.le_of_lt (size_new _ _)) ?_))
  intro v9 w9 hown9 hgr9
  have HB9 : Hid (Below wB.heap.size wB w9) := Lib.hid (bel_own (bAlloc wB _) (Nat.le_of_lt (size_new _ _)) HE0.out hgr9)
  obtain ⟨Ab, cb, rfl, HO9⟩ := slO hown9
  obtain ⟨Ay', cy', ey, _, hsy⟩ := own_sl (encO_len X) HY8.out
  injection ey with ey _ _
  subst ey
  obtain ⟨Az', cz', ez, _, hsz⟩ := own_sl (encO_len X) HZ8.out
  injection ez with ez _ _
  subst ez
  have HSY := Lib.hid hsy
  have HSZ0 := Lib.hid hsz
  clear hown9 hgr9 HX8 HE0 hsy hsz HY8 HZ8
  go_wp2
  go_loopw [17, 18] (fun bv iv wr => ∃ k : Nat, k ≤ P.length ∧ iv = .int .i64 k ∧ (∃ A c, bv = .slice A (jnL (eT X) O (P.take k)).length c ∧ Hid (OwnO X wB.heap.size (.slice A (jnL (eT X) O (P.take k)).length c) (jnL (eT X) O (P.take k)) wr)) ∧ Hid (Below wB.heap.size wB wr)) (fun _ iv _ => P.length - (intOf iv).toNat)
  case atStart => exact ⟨0, Nat.zero_le _, rfl, ⟨Ab, cb, rfl, HO9⟩, HB9⟩
  case round =>
    obtain ⟨k, hk, rfl, ⟨Ao, co, rfl, HOW⟩, HB⟩ := hrel
    by_cases hlt : k < P.length
    · obtain ⟨⟨p1, p2⟩, hp⟩ : ∃ p, P[k]? = some p := ⟨_, List.getElem?_eq_getElem hlt⟩
      obtain ⟨g1, o1, rfl, _, hat1⟩ := HSY.out (by intro h; simp [h] at hlt)
      obtain ⟨t, ht⟩ : ∃ t, onX X p1 = t := ⟨_, rfl⟩
      have henc : encO X (p1, p2) = (tdC { t with fr := p1, «to» := p2 }).toList := by rw [← ht]; rfl
      have HEN := Lib.hid henc
      have HT := Lib.hid ht
      have HPK := Lib.hid hp
      have HKC : Hid (∀ W, Below wB.heap.size wB W → (W.cell? ⟨g1, o1 + k * 13, none⟩ = some (.int .i64 p1) ∧ W.cell? ⟨g1, o1 + k * 13 + 1, none⟩ = some (.int .i64 p2) ∧ W.cell? ⟨g1, o1 + k * 13 + 2, none⟩ = some (.bool t.em) ∧ W.cell? ⟨g1, o1 + k * 13 + 3, none⟩ = some (.int .i64 t.sa) ∧ W.cell? ⟨g1, o1 + k * 13 + 4, none⟩ = some (.int .i64 t.pa) ∧ W.cell? ⟨g1, o1 + k * 13 + 5, none⟩ = some (.int .i64 (t.h 0)) ∧ W.cell? ⟨g1, o1 + k * 13 + 6, none⟩ = some (.int .i64 (t.h 1)) ∧ W.cell? ⟨g1, o1 + k * 13 + 7, none⟩ = some (.int .i64 (t.h 2)) ∧ W.cell? ⟨g1, o1 + k * 13 + 8, none⟩ = some (.int .i64 (t.h 3)) ∧ W.cell? ⟨g1, o1 + k * 13 + 9, none⟩ = some (.int .i64 (t.h 4)) ∧ W.cell? ⟨g1, o1 + k * 13 + 10, none⟩ = some (.int .i64 (t.h 5)) ∧ W.cell? ⟨g1, o1 + k * 13 + 11, none⟩ = some (.int .i64 (t.h 6)) ∧ W.cell? ⟨g1, o1 + k * 13 + 12, none⟩ = some (.string t.co))) := Lib.hid fun W hW => cell13 (td := { t with fr := p1, «to» := p2 }) hp henc (fun i x hx j u hu => bCell hW (hat1 i x hx j u hu))
      have hlt2 : (k : Int) < (P.length : Int) := by omega
      obtain ⟨J, hJ⟩ : ∃ J, jnL (eT X) O (P.take k) = J := ⟨_, rfl⟩
      have hJl : J.length ≤ 14000 := by
        rw [← hJ]
        have h1 := jn_len (eT X) O (P.take k)
        rw [List.length_take] at h1
        omega
      have HJ := Lib.hid hJ
      rw [hJ] at HOW ⊢
      obtain ⟨K0, K1, K2, K3, K4, K5, K6, K7, K8, K9, K10, K11, K12⟩ := HKC.out _ HB.out
      obtain ⟨tb, htb⟩ : ∃ z, wr.heap.size = z := ⟨_, rfl⟩
      obtain ⟨w11, hw11⟩ : ∃ z, wr.alloc (.cells #[.int .i64 p1, .int .i64 p2, .bool t.em, .int .i64 t.sa, .int .i64 t.pa, .int .i64 (t.h 0), .int .i64 (t.h 1), .int .i64 (t.h 2), .int .i64 (t.h 3), .int .i64 (t.h 4), .int .i64 (t.h 5), .int .i64 (t.h 6), .string t.co] 50) = z := ⟨_, rfl⟩
      have HRO : Hid (MeI X wB tb (.slice Ao J.length co) J t p1 p2 w11) := Lib.hid (by
        have hg : Below wr.heap.size wr w11 := by rw [← hw11]; exact bAlloc _ _
        refine ⟨own_bel HOW.out hg, by rw [← hw11, ← htb]; exact Bk.new _ _ _, bTrans HB.out hg, by rw [← htb]; exact HB.out.size, fun h => ?_⟩
        have h3 := Own.lt HOW.out h
        omega)
      have HE := Lib.hid (And.intro htb hw11)
      clear ht hp henc hat1 hJ htb hw11 HOW
      go_upto_region 16 with fail
      rw [HE.out.1, HE.out.2]
      clear HE K0 K1 K2 K3 K4 K5 K6 K7 K8 K9 K10 K11 K12
      by_cases hk0 : k = 0
      · subst hk0
        have HJ0 : Hid (J = O) := Lib.hid (by rw [← HJ.out]; rfl)
        rcases J.eq_nil_or_concat with hO | ⟨Q, q, hO⟩
        · subst hO
          have HRO : Hid (MeI X wB tb (.slice Ao 0 co) [] t p1 p2 w11) := HRO
          have HV : Hid (jnL (eT X) O (P.take (0 + 1)) = [(p1, p2)]) := Lib.hid (by rw [jn_one HPK.out, ← HJ0.out]; rfl)
          obtain ⟨K0, K1, K2, K3, K4, K5, K6, K7, K8, K9, K10, K11, K12⟩ := HKC.out _ HRO.out.below
          simp only [Nat.zero_mul, Nat.add_zero] at K0 K1 K2 K3 K4 K5 K6 K7 K8 K9 K10 K11 K12
          have HSZ : Hid (wB.heap.size ≤ w11.heap.size) := Lib.hid HRO.out.below.size
          have HNW : Hid (∀ j u, (encO X (p1, p2))[j]? = some u → (w11.alloc (.cells #[.int .i64 p1, .int .i64 p2, .bool t.em, .int .i64 t.sa, .int .i64 t.pa, .int .i64 (t.h 0), .int .i64 (t.h 1), .int .i64 (t.h 2), .int .i64 (t.h 3), .int .i64 (t.h 4), .int .i64 (t.h 5), .int .i64 (t.h 6), .string t.co] 50)).cell? ⟨w11.heap.size, j, none⟩ = some u) := Lib.hid fun j u hu => by
            rw [HEN.out] at hu
            exact newsT t p1 p2 w11 j u hu
          go_upto_region 21 with fail
          go_wp2_with ((at_builtin; refine wpList_append_row (encO_len X) (encO_one X) rfl _ _ 34 rfl wB.heap.size 50 _ 112 Tryz.underlying34 termsInfo rfl (by decide) _ ([]) (p1, p2) rfl (HRO.out.own.alloc _) w11.heap.size 1 rfl HNW.out (by first | (simp; done) | omega | (simp at hJl ⊢; omega)) (by decide) (Nat.le_trans HSZ.out (Grows.of_alloc w11 _).size) ?_))
          intro v15 w15 hown15 hgr15
          have HB15 : Hid (Below wB.heap.size wB w15) := Lib.hid (bel_own (HRO.out.below.trans ((bAlloc w11 _).mono HSZ.out)) (Nat.le_trans HSZ.out (Grows.of_alloc w11 _).size) (HRO.out.own.alloc _) hgr15)
          have HO15 := Lib.hid hown15
          clear hown15 hgr15 K0 K1 K2 K3 K4 K5 K6 K7 K8 K9 K10 K11 K12
          go_wp2
          exact ⟨⟨0 + 1, by omega, by go_num, by
            rw [HV.out]
            exact slO HO15.out, HB15⟩, by simp [intOf]; omega⟩
        · rw [List.concat_eq_append] at hO
          subst hO
          have hlen : (Q ++ [q]).length = Q.length + 1 := by simp
          rw [hlen] at HRO hJl ⊢
          clear hlen
          obtain ⟨g, hgg, hg1, hg2, hc, hrow⟩ := lastOfO HRO.out.own
          subst hgg
          obtain ⟨tq, htq⟩ : ∃ z, onX X q.1 = z := ⟨_, rfl⟩
          have hcq : encO X q = (tdC { tq with fr := q.1, «to» := q.2 }).toList := by unfold encO; rw [htq]
          rw [hcq] at hc
          have D0 : w11.cell? ⟨g, Q.length * 13, none⟩ = some (.int .i64 q.1) := hc 0 _ rfl
          have D1 : w11.cell? ⟨g, Q.length * 13 + 1, none⟩ = some (.int .i64 q.2) := hc 1 _ rfl
          obtain ⟨eqb, heqb⟩ : ∃ z, eqTd t tq = z := ⟨_, rfl⟩
          have hq : ∀ W : World, (binOp .eql 50 (.agg #[.int .i64 q.1, .int .i64 q.2, .bool t.em, .int .i64 t.sa, .int .i64 t.pa, .int .i64 (t.h 0), .int .i64 (t.h 1), .int .i64 (t.h 2), .int .i64 (t.h 3), .int .i64 (t.h 4), .int .i64 (t.h 5), .int .i64 (t.h 6), .string t.co]) (.agg #[.int .i64 q.1, .int .i64 q.2, .bool tq.em, .int .i64 tq.sa, .int .i64 tq.pa, .int .i64 (tq.h 0), .int .i64 (tq.h 1), .int .i64 (tq.h 2), .int .i64 (tq.h 3), .int .i64 (tq.h 4), .int .i64 (tq.h 5), .int .i64 (tq.h 6), .string tq.co])).run Tryz.prog W = .ok (.bool eqb) W := fun W => by rw [run_eqT t tq, heqb]
          have HEQ : Hid (eT X q.1 p1 = eqb) := Lib.hid (by rw [(eT_eqv X).symm, ← heqb, eqTd_key]; unfold eT; rw [HT.out, htq])
          have HCQ := Lib.hid hcq
          have HG := Lib.hid (And.intro hg1 hg2)
          have hi1 : (Q.length : Int) < (Q.length : Int) + 1 := by omega
          have hi2 : Q.length < Q.length + 1 := by omega
          have hi3 : ¬ ((Q.length : Int) < 0) := by omega
          have hi4 : (0 : Int) ≤ (Q.length : Int) := by omega
          have TT0 : w11.cell? ⟨tb, 0, none⟩ = some (.int .i64 p1) := HRO.out.tk.cell 0
          have TT1 : w11.cell? ⟨tb, 1, none⟩ = some (.int .i64 p2) := HRO.out.tk.cell 1
          have TT2 : w11.cell? ⟨tb, 2, none⟩ = some (.bool t.em) := HRO.out.tk.cell 2
          have TT3 : w11.cell? ⟨tb, 3, none⟩ = some (.int .i64 t.sa) := HRO.out.tk.cell 3
          have TT4 : w11.cell? ⟨tb, 4, none⟩ = some (.int .i64 t.pa) := HRO.out.tk.cell 4
          have TT5 : w11.cell? ⟨tb, 5, none⟩ = some (.int .i64 (t.h 0)) := HRO.out.tk.cell 5
          have TT6 : w11.cell? ⟨tb, 6, none⟩ = some (.int .i64 (t.h 1)) := HRO.out.tk.cell 6
          have TT7 : w11.cell? ⟨tb, 7, none⟩ = some (.int .i64 (t.h 2)) := HRO.out.tk.cell 7
          have TT8 : w11.cell? ⟨tb, 8, none⟩ = some (.int .i64 (t.h 3)) := HRO.out.tk.cell 8
          have TT9 : w11.cell? ⟨tb, 9, none⟩ = some (.int .i64 (t.h 4)) := HRO.out.tk.cell 9
          have TT10 : w11.cell? ⟨tb, 10, none⟩ = some (.int .i64 (t.h 5)) := HRO.out.tk.cell 10
          have TT11 : w11.cell? ⟨tb, 11, none⟩ = some (.int .i64 (t.h 6)) := HRO.out.tk.cell 11
          have TT12 : w11.cell? ⟨tb, 12, none⟩ = some (.string t.co) := HRO.out.tk.cell 12
          have TTF0 : w11.frozen? ⟨tb, 0, none⟩ = false := HRO.out.tk.frozen 0
          have TTF1 : w11.frozen? ⟨tb, 1, none⟩ = false := HRO.out.tk.frozen 1
          obtain ⟨w12, hw12⟩ : ∃ z, (w11.setCell ⟨tb, 0, none⟩ (.int .i64 q.1)).setCell ⟨tb, 1, none⟩ (.int .i64 q.2) = z := ⟨_, rfl⟩
          have HR12 : Hid (MeI X wB tb (.slice (some ⟨g, 0, none⟩) (Q.length + 1) co) (Q ++ [q]) t q.1 q.2 w12) := Lib.hid (by rw [← hw12]; exact HRO.out.set_ q.1 q.2)
          have HE12 := Lib.hid hw12
          clear hc hrow htq hcq heqb hg1 hg2 hw12
          go_upto_region 19 with fail
          rw [HE12.out]
          clear HE12 HRO D0 D1 TTF0 TTF1 TT0 TT1 TT2 TT3 TT4 TT5 TT6 TT7 TT8 TT9 TT10 TT11 TT12
          obtain ⟨g', hgg, _, _, hc, _⟩ := lastOfO HR12.out.own
          injection hgg with hgg
          injection hgg with hgg _ _
          subst hgg
          rw [HCQ.out] at hc
          have D0 : w12.cell? ⟨g, Q.length * 13, none⟩ = some (.int .i64 q.1) := hc 0 _ rfl
          have D1 : w12.cell? ⟨g, Q.length * 13 + 1, none⟩ = some (.int .i64 q.2) := hc 1 _ rfl
          have D2 : w12.cell? ⟨g, Q.length * 13 + 2, none⟩ = some (.bool tq.em) := hc 2 _ rfl
          have D3 : w12.cell? ⟨g, Q.length * 13 + 3, none⟩ = some (.int .i64 tq.sa) := hc 3 _ rfl
          have D4 : w12.cell? ⟨g, Q.length * 13 + 4, none⟩ = some (.int .i64 tq.pa) := hc 4 _ rfl
          have D5 : w12.cell? ⟨g, Q.length * 13 + 5, none⟩ = some (.int .i64 (tq.h 0)) := hc 5 _ rfl
          have D6 : w12.cell? ⟨g, Q.length * 13 + 6, none⟩ = some (.int .i64 (tq.h 1)) := hc 6 _ rfl
          have D7 : w12.cell? ⟨g, Q.length * 13 + 7, none⟩ = some (.int .i64 (tq.h 2)) := hc 7 _ rfl
          have D8 : w12.cell? ⟨g, Q.length * 13 + 8, none⟩ = some (.int .i64 (tq.h 3)) := hc 8 _ rfl
          have D9 : w12.cell? ⟨g, Q.length * 13 + 9, none⟩ = some (.int .i64 (tq.h 4)) := hc 9 _ rfl
          have D10 : w12.cell? ⟨g, Q.length * 13 + 10, none⟩ = some (.int .i64 (tq.h 5)) := hc 10 _ rfl
          have D11 : w12.cell? ⟨g, Q.length * 13 + 11, none⟩ = some (.int .i64 (tq.h 6)) := hc 11 _ rfl
          have D12 : w12.cell? ⟨g, Q.length * 13 + 12, none⟩ = some (.string tq.co) := hc 12 _ rfl
          have T0 : w12.cell? ⟨tb, 0, none⟩ = some (.int .i64 q.1) := HR12.out.tk.cell 0
          have T1 : w12.cell? ⟨tb, 1, none⟩ = some (.int .i64 q.2) := HR12.out.tk.cell 1
          have T2 : w12.cell? ⟨tb, 2, none⟩ = some (.bool t.em) := HR12.out.tk.cell 2
          have T3 : w12.cell? ⟨tb, 3, none⟩ = some (.int .i64 t.sa) := HR12.out.tk.cell 3
          have T4 : w12.cell? ⟨tb, 4, none⟩ = some (.int .i64 t.pa) := HR12.out.tk.cell 4
          have T5 : w12.cell? ⟨tb, 5, none⟩ = some (.int .i64 (t.h 0)) := HR12.out.tk.cell 5
          have T6 : w12.cell? ⟨tb, 6, none⟩ = some (.int .i64 (t.h 1)) := HR12.out.tk.cell 6
          have T7 : w12.cell? ⟨tb, 7, none⟩ = some (.int .i64 (t.h 2)) := HR12.out.tk.cell 7
          have T8 : w12.cell? ⟨tb, 8, none⟩ = some (.int .i64 (t.h 3)) := HR12.out.tk.cell 8
          have T9 : w12.cell? ⟨tb, 9, none⟩ = some (.int .i64 (t.h 4)) := HR12.out.tk.cell 9
          have T10 : w12.cell? ⟨tb, 10, none⟩ = some (.int .i64 (t.h 5)) := HR12.out.tk.cell 10
          have T11 : w12.cell? ⟨tb, 11, none⟩ = some (.int .i64 (t.h 6)) := HR12.out.tk.cell 11
          have T12 : w12.cell? ⟨tb, 12, none⟩ = some (.string t.co) := HR12.out.tk.cell 12
          clear hc
          go_quiet (fail)
          rename_i nq
          obtain ⟨w13, hw13⟩ : ∃ z, w12.drewN nq = z := ⟨_, rfl⟩
          have HR13 : Hid (MeI X wB tb (.slice (some ⟨g, 0, none⟩) (Q.length + 1) co) (Q ++ [q]) t q.1 q.2 w13) := Lib.hid (by rw [← hw13]; exact HR12.out.drewN nq)
          rw [hw13]
          clear hw13 HR12 hq D0 D1 D2 D3 D4 D5 D6 D7 D8 D9 D10 D11 D12 T0 T1 T2 T3 T4 T5 T6 T7 T8 T9 T10 T11 T12
          obtain ⟨g', hgg, _, _, hc, hrow⟩ := lastOfO HR13.out.own
          injection hgg with hgg
          injection hgg with hgg _ _
          subst hgg
          rw [HCQ.out] at hc
          have D1 : w13.cell? ⟨g, Q.length * 13 + 1, none⟩ = some (.int .i64 q.2) := hc 1 _ rfl
          have F1 := World.ownsRow.frozenAt hrow (Q.length * 13 + 1)
          have HRW := Lib.hid hrow
          obtain ⟨K0, K1, K2, K3, K4, K5, K6, K7, K8, K9, K10, K11, K12⟩ := HKC.out _ HR13.out.below
          simp only [Nat.zero_mul, Nat.add_zero] at K0 K1 K2 K3 K4 K5 K6 K7 K8 K9 K10 K11 K12
          clear hc hrow
          cases eqb with
          | true =>
            have HV : Hid (jnL (eT X) O (P.take (0 + 1)) = Q ++ [(q.1, p2)]) := Lib.hid (by rw [jn_one HPK.out, ← HJ0.out, mrgS_snoc, if_pos HEQ.out])
            have HST : Hid (OwnO X wB.heap.size (.slice (some ⟨g, 0, none⟩) (Q.length + 1) co) (Q ++ [(q.1, p2)]) (w13.setCell ⟨g, Q.length * 13 + 1, none⟩ (.int .i64 p2)) ∧ Below wB.heap.size wB (w13.setCell ⟨g, Q.length * 13 + 1, none⟩ (.int .i64 p2))) := Lib.hid (by
              have hst := World.ownsRow.stored HRW.out (Q.length * 13 + 1) (.int .i64 p2)
              rw [setLastO] at hst
              exact ⟨ownLastO hst.1, HR13.out.below.setCell (p := ⟨g, Q.length * 13 + 1, none⟩) HG.out.1 _⟩)
            go_wp2
            exact ⟨⟨0 + 1, by omega, by go_num, by
              rw [HV.out]
              exact slO HST.out.1, Lib.hid HST.out.2⟩, by simp [intOf]; omega⟩
          | false =>
            have HV : Hid (jnL (eT X) O (P.take (0 + 1)) = Q ++ [q, (p1, p2)]) := Lib.hid (by rw [jn_one HPK.out, ← HJ0.out, mrgS_snoc, if_neg (by rw [HEQ.out]; simp)])
            clear D1 F1
            have HSZ : Hid (wB.heap.size ≤ w13.heap.size) := Lib.hid HR13.out.below.size
            have HNW : Hid (∀ j u, (encO X (p1, p2))[j]? = some u → (w13.alloc (.cells #[.int .i64 p1, .int .i64 p2, .bool t.em, .int .i64 t.sa, .int .i64 t.pa, .int .i64 (t.h 0), .int .i64 (t.h 1), .int .i64 (t.h 2), .int .i64 (t.h 3), .int .i64 (t.h 4), .int .i64 (t.h 5), .int .i64 (t.h 6), .string t.co] 50)).cell? ⟨w13.heap.size, j, none⟩ = some u) := Lib.hid fun j u hu => by
              rw [HEN.out] at hu
              exact newsT t p1 p2 w13 j u hu
            go_upto_region 21 with fail
            go_wp2_with ((at_builtin; refine wpList_append_row (encO_len X) (encO_one X) rfl _ _ 34 rfl wB.heap.size 50 _ 112 Tryz.underlying34 termsInfo rfl (by decide) _ (Q ++ [q]) (p1, p2) rfl (HR13.out.own.alloc _) w13.heap.size 1 rfl HNW.out (by first | (simp; done) | omega | (simp at hJl ⊢; omega)) (by decide) (Nat.le_trans HSZ.out (Grows.of_alloc w13 _).size) ?_))
            intro v15 w15 hown15 hgr15
            have HB15 : Hid (Below wB.heap.size wB w15) := Lib.hid (bel_own (HR13.out.below.trans ((bAlloc w13 _).mono HSZ.out)) (Nat.le_trans HSZ.out (Grows.of_alloc w13 _).size) (HR13.out.own.alloc _) hgr15)
            have HO15 := Lib.hid hown15
            clear hown15 hgr15 K0 K1 K2 K3 K4 K5 K6 K7 K8 K9 K10 K11 K12
            go_wp2
            exact ⟨⟨0 + 1, by omega, by go_num, by
              rw [HV.out]
              exact slO HO15.out, HB15⟩, by simp [intOf]; omega⟩
      · have hk1 : 0 < k := by omega
        have hk2 : ¬ ((k : Int) = 0) := by omega
        have HV : Hid (jnL (eT X) O (P.take (k + 1)) = J ++ [(p1, p2)]) := Lib.hid (by rw [jn_more hk1 HPK.out, HJ.out])
        obtain ⟨K0, K1, K2, K3, K4, K5, K6, K7, K8, K9, K10, K11, K12⟩ := HKC.out _ HRO.out.below
        have HSZ : Hid (wB.heap.size ≤ w11.heap.size) := Lib.hid HRO.out.below.size
        have HNW : Hid (∀ j u, (encO X (p1, p2))[j]? = some u → (w11.alloc (.cells #[.int .i64 p1, .int .i64 p2, .bool t.em, .int .i64 t.sa, .int .i64 t.pa, .int .i64 (t.h 0), .int .i64 (t.h 1), .int .i64 (t.h 2), .int .i64 (t.h 3), .int .i64 (t.h 4), .int .i64 (t.h 5), .int .i64 (t.h 6), .string t.co] 50)).cell? ⟨w11.heap.size, j, none⟩ = some u) := Lib.hid fun j u hu => by
          rw [HEN.out] at hu
          exact newsT t p1 p2 w11 j u hu
        go_upto_region 21 with fail
        go_wp2_with ((at_builtin; refine wpList_append_row (encO_len X) (encO_one X) rfl _ _ 34 rfl wB.heap.size 50 _ 112 Tryz.underlying34 termsInfo rfl (by decide) _ (J) (p1, p2) rfl (HRO.out.own.alloc _) w11.heap.size 1 rfl HNW.out (by first | (simp; done) | omega | (simp at hJl ⊢; omega)) (by decide) (Nat.le_trans HSZ.out (Grows.of_alloc w11 _).size) ?_))
        intro v15 w15 hown15 hgr15
        have HB15 : Hid (Below wB.heap.size wB w15) := Lib.hid (bel_own (HRO.out.below.trans ((bAlloc w11 _).mono HSZ.out)) (Nat.le_trans HSZ.out (Grows.of_alloc w11 _).size) (HRO.out.own.alloc _) hgr15)
        have HO15 := Lib.hid hown15
        clear hown15 hgr15 K0 K1 K2 K3 K4 K5 K6 K7 K8 K9 K10 K11 K12
        go_wp2
        exact ⟨⟨k + 1, by omega, by go_num, by
          rw [HV.out]
          exact slO HO15.out, HB15⟩, by simp [intOf]; omega⟩
    · obtain rfl : k = P.length := by omega
      rw [List.take_length, HJA.out] at HOW ⊢
      obtain ⟨Aq, cq, eq_, _, hsq⟩ := own_sl (encO_len X) HOW.out
      injection eq_ with eq_ _ _
      subst eq_
      have HSB := Lib.hid hsq
      obtain ⟨wL, rfl⟩ : ∃ x : World, x = wr := ⟨_, rfl⟩
      have HSZ2 : Hid (Sl (encO X) 13 wL wL.heap.size Az Z) := Lib.hid (sl_bel HSZ0.out HB.out)
      have HBL : Hid (Below w.heap.size w wL) := Lib.hid (bTrans HBW.out HB.out)
      clear HOW hsq HSZ0 HSY HB
      go_wp2
      go_loopw [21] (fun iv wr => ∃ k : Nat, k ≤ Z.length ∧ iv = .int .i64 k ∧ Hid (Below wL.heap.size wL wr)) (fun iv _ => Z.length - (intOf iv).toNat)
      case atStart => exact ⟨0, Nat.zero_le _, rfl, Lib.hid (Below.refl _ _)⟩
      case round =>
        obtain ⟨k, hk, rfl, HB⟩ := hrel
        by_cases hlt : k < Z.length
        · obtain ⟨⟨p1, p2⟩, hp⟩ : ∃ p, Z[k]? = some p := ⟨_, List.getElem?_eq_getElem hlt⟩
          obtain ⟨g1, o1, rfl, _, hat1⟩ := HSZ2.out (by intro h; simp [h] at hlt)
          obtain ⟨g2, o2, rfl, _, hat2⟩ := HSB.out (by intro h; simp [h] at hlt)
          obtain ⟨t, ht⟩ : ∃ t, onX X p1 = t := ⟨_, rfl⟩
          have henc : encO X (p1, p2) = (tdC { t with fr := p1, «to» := p2 }).toList := by rw [← ht]; rfl
          obtain ⟨K0, K1, K2, K3, K4, K5, K6, K7, K8, K9, K10, K11, K12⟩ : (wr.cell? ⟨g1, o1 + k * 13, none⟩ = some (.int .i64 p1) ∧ wr.cell? ⟨g1, o1 + k * 13 + 1, none⟩ = some (.int .i64 p2) ∧ wr.cell? ⟨g1, o1 + k * 13 + 2, none⟩ = some (.bool t.em) ∧ wr.cell? ⟨g1, o1 + k * 13 + 3, none⟩ = some (.int .i64 t.sa) ∧ wr.cell? ⟨g1, o1 + k * 13 + 4, none⟩ = some (.int .i64 t.pa) ∧ wr.cell? ⟨g1, o1 + k * 13 + 5, none⟩ = some (.int .i64 (t.h 0)) ∧ wr.cell? ⟨g1, o1 + k * 13 + 6, none⟩ = some (.int .i64 (t.h 1)) ∧ wr.cell? ⟨g1, o1 + k * 13 + 7, none⟩ = some (.int .i64 (t.h 2)) ∧ wr.cell? ⟨g1, o1 + k * 13 + 8, none⟩ = some (.int .i64 (t.h 3)) ∧ wr.cell? ⟨g1, o1 + k * 13 + 9, none⟩ = some (.int .i64 (t.h 4)) ∧ wr.cell? ⟨g1, o1 + k * 13 + 10, none⟩ = some (.int .i64 (t.h 5)) ∧ wr.cell? ⟨g1, o1 + k * 13 + 11, none⟩ = some (.int .i64 (t.h 6)) ∧ wr.cell? ⟨g1, o1 + k * 13 + 12, none⟩ = some (.string t.co)) := cell13 (td := { t with fr := p1, «to» := p2 }) hp henc (fun i x hx j u hu => bCell HB.out (hat1 i x hx j u hu))
          obtain ⟨M0, M1, M2, M3, M4, M5, M6, M7, M8, M9, M10, M11, M12⟩ : (wr.cell? ⟨g2, o2 + k * 13, none⟩ = some (.int .i64 p1) ∧ wr.cell? ⟨g2, o2 + k * 13 + 1, none⟩ = some (.int .i64 p2) ∧ wr.cell? ⟨g2, o2 + k * 13 + 2, none⟩ = some (.bool t.em) ∧ wr.cell? ⟨g2, o2 + k * 13 + 3, none⟩ = some (.int .i64 t.sa) ∧ wr.cell? ⟨g2, o2 + k * 13 + 4, none⟩ = some (.int .i64 t.pa) ∧ wr.cell? ⟨g2, o2 + k * 13 + 5, none⟩ = some (.int .i64 (t.h 0)) ∧ wr.cell? ⟨g2, o2 + k * 13 + 6, none⟩ = some (.int .i64 (t.h 1)) ∧ wr.cell? ⟨g2, o2 + k * 13 + 7, none⟩ = some (.int .i64 (t.h 2)) ∧ wr.cell? ⟨g2, o2 + k * 13 + 8, none⟩ = some (.int .i64 (t.h 3)) ∧ wr.cell? ⟨g2, o2 + k * 13 + 9, none⟩ = some (.int .i64 (t.h 4)) ∧ wr.cell? ⟨g2, o2 + k * 13 + 10, none⟩ = some (.int .i64 (t.h 5)) ∧ wr.cell? ⟨g2, o2 + k * 13 + 11, none⟩ = some (.int .i64 (t.h 6)) ∧ wr.cell? ⟨g2, o2 + k * 13 + 12, none⟩ = some (.string t.co)) := cell13 (td := { t with fr := p1, «to» := p2 }) hp henc (fun i x hx j u hu => bCell HB.out (hat2 i x hx j u hu))
          have hlt2 : (k : Int) < (Z.length : Int) := by omega
          have hq := run_neT t p1 p2
          clear hp hat1 hat2 ht henc
          go_upto_region 27 with fail
          go_quiet (fail)
          rename_i nq
          have HBn : Hid (Below wL.heap.size wL (wr.drewN nq)) := Lib.hid (HB.out.trans ((bDrewN wr nq).mono HB.out.size))
          clear K0 K1 K2 K3 K4 K5 K6 K7 K8 K9 K10 K11 K12 M0 M1 M2 M3 M4 M5 M6 M7 M8 M9 M10 M11 M12 hq HB
          go_wp2
          exact ⟨⟨k + 1, by omega, by go_num, HBn⟩, by simp [intOf]; omega⟩
        · obtain rfl : k = Z.length := by omega
          have HB0 := Lib.hid (bTrans HBL.out HB.out)
          go_wp2_with fail
          refine (HAW.out _ HB0.out).mono ?_
          rintro e w9 ⟨rfl, hb9⟩
          have HF := Lib.hid (bTrans HB0.out hb9)
          clear hb9
          go_wp2
          go_ret
          exact ⟨rfl, HF.out⟩
end Go.Proofs.YtlgoaohklggcdaaGreatDoor
