import Derived.Test.YtgheloooibafcaaGreatDoorLn1
/- Lines of facts: value, At. -/
namespace Go.Proofs.YtgheloooibafcaaGreatDoor
open Go.RowKit Go.Sort

theorem bkk2 (w : World) (c d : Array Value) (t u : TypeId) {p q : Nat} {w2 : World} (h1 : w.heap.size = p) (h2 : p + 1 = q) (hw : (w.alloc (.cells c t)).alloc (.cells d u) = w2) : Bk p t c w2 ∧ Bk q u d w2 ∧ Below w.heap.size w w2 := by
  subst hw; subst h2; subst h1
  have b1 : Bk w.heap.size t c (w.alloc (.cells c t)) := Bk.new _ _ _
  have b2 : Bk (w.heap.size + 1) u d ((w.alloc (.cells c t)).alloc (.cells d u)) := by
    have := Bk.new (w.alloc (.cells c t)) u d
    rwa [show (w.alloc (.cells c t)).heap.size = w.heap.size + 1 by simp] at this
  exact ⟨b1.grows (.of_alloc _ _), b2, bTrans (bAlloc w _) (bAlloc _ _)⟩
theorem valL_neg {X : List Kn} {q : Int} (h : q < 0) : valL X q = (0, 0, ⟨#[]⟩) := if_pos h
theorem valL_at {X : List Kn} {j : Nat} {x : Kn} (h : X[j]? = some x) : valL X (j : Int) = (x.1, x.2.nu, x.2.tx) := by
  unfold valL
  rw [if_neg (by omega), Int.toNat_natCast, h]
set_option maxHeartbeats 4000000 in
set_option maxRecDepth 100000 in
theorem li_value (X : List Kn) (q : Int) (A : Option Addr) (cap : Nat) (w : World) (hs : SlK1 w A X) (hq : q = -1 ∨ ∃ j : Nat, q = j ∧ j < X.length) :
    Calls Tryz.prog 97 #[.agg #[.slice A X.length cap], .int .i64 q] w fun e w' => e = .returned (.agg #[.int .i64 (valL X q).1, .int .i64 (valL X q).2.1, .string (valL X q).2.2]) ∧ Below w.heap.size w w' := by
  obtain ⟨lb, hlb⟩ : ∃ x, w.heap.size = x := ⟨_, rfl⟩
  obtain ⟨rb, hrb⟩ : ∃ x, lb + 1 = x := ⟨_, rfl⟩
  obtain ⟨w2, hw2⟩ : ∃ x, (w.alloc (.cells #[.slice A X.length cap] 137)).alloc (.cells #[.int .i64 0, .int .i64 0, .string ⟨#[]⟩] 67) = x := ⟨_, rfl⟩
  obtain ⟨k1, k2, k3⟩ := bkk2 w _ _ _ _ hlb hrb hw2
  have HB2 := Lib.hid k3
  have HK1 := Lib.hid k1
  have HK2 := Lib.hid k2
  have HRW : Hid (w.heap.size ≤ rb) := Lib.hid (by omega)
  have HS2 := Lib.hid (sl_bel hs k3)
  have HE2 := Lib.hid (And.intro hlb (And.intro hrb hw2))
  clear hs hlb hrb hw2 k1 k2 k3
  go_enter Tryz.func97, Tryz.ntmps97
  go_upto_region 1 with fail
  rw [HE2.out.1, HE2.out.2.1, HE2.out.2.2]
  clear HE2
  rcases hq with rfl | ⟨j, rfl, hj⟩
  · have HV : Hid (valL X (-1) = (0, 0, ⟨#[]⟩)) := Lib.hid (valL_neg (by decide))
    have R0 : w2.cell? ⟨rb, 0, none⟩ = some (.int .i64 0) := HK2.out.cell 0
    have R1 : w2.cell? ⟨rb, 1, none⟩ = some (.int .i64 0) := HK2.out.cell 1
    have R2 : w2.cell? ⟨rb, 2, none⟩ = some (.string ⟨#[]⟩) := HK2.out.cell 2
    have S0 : w2.frozen? ⟨rb, 0, none⟩ = false := HK2.out.frozen 0
    have S1 : w2.frozen? ⟨rb, 1, none⟩ = false := HK2.out.frozen 1
    have S2 : w2.frozen? ⟨rb, 2, none⟩ = false := HK2.out.frozen 2
    obtain ⟨wz, hwz⟩ : ∃ z, ((w2.setCell ⟨rb, 0, none⟩ (.int .i64 0)).setCell ⟨rb, 1, none⟩ (.int .i64 0)).setCell ⟨rb, 2, none⟩ (.string ⟨#[]⟩) = z := ⟨_, rfl⟩
    have hz := ((HK2.out.set_ 0 (.int .i64 0)).set_ 1 (.int .i64 0)).set_ 2 (.string ⟨#[]⟩)
    have HFIN : Hid (Below w.heap.size w wz) := Lib.hid (by rw [← hwz]; exact ((HB2.out.setCell (p := ⟨rb, 0, none⟩) HRW.out _).setCell (p := ⟨rb, 1, none⟩) HRW.out _).setCell (p := ⟨rb, 2, none⟩) HRW.out _)
    rw [hwz] at hz
    have z0 : wz.cell? ⟨rb, 0, none⟩ = some (.int .i64 0) := hz.cell 0
    have z1 : wz.cell? ⟨rb, 1, none⟩ = some (.int .i64 0) := hz.cell 1
    have z2 : wz.cell? ⟨rb, 2, none⟩ = some (.string ⟨#[]⟩) := hz.cell 2
    clear hz
    go_wp2
    exact bodyPost_ret (v := .agg #[.int .i64 0, .int .i64 0, .string ⟨#[]⟩]) (by simp [results, Tryz.results97, go_sem, z0, z1, z2]) rfl ⟨by rw [HV.out], HFIN.out⟩
  · obtain ⟨x, hx⟩ : ∃ x, X[j]? = some x := ⟨_, List.getElem?_eq_getElem hj⟩
    have HV : Hid (valL X (j : Int) = (x.1, x.2.nu, x.2.tx)) := Lib.hid (valL_at hx)
    obtain ⟨b, off, rfl, hbl, hat⟩ := HS2.out (by intro h; simp [h] at hj)
    obtain ⟨G0, G1, G2, G3, G4, G5, G6, G7, G8⟩ := kcells (hat j x hx)
    have L0 : w2.cell? ⟨lb, 0, none⟩ = some (.slice (some ⟨b, off, none⟩) X.length cap) := HK1.out.cell 0
    have hj2 : (j : Int) < (X.length : Int) := by omega
    have hj0 : ¬ ((j : Int) < 0) := by omega
    obtain ⟨kb, hkb⟩ : ∃ z, w2.heap.size = z := ⟨_, rfl⟩
    obtain ⟨w4, hw4⟩ : ∃ z, w2.alloc (.cells #[.int .i64 x.1, .int .u32 x.2.id, .int .u32 x.2.pe, .int .i64 x.2.ki, .int .i64 x.2.fr, .int .i64 x.2.to, .string x.2.co, .int .i64 x.2.nu, .string x.2.tx] 41) = z := ⟨_, rfl⟩
    have HK4 : Hid (Bk kb 41 #[.int .i64 x.1, .int .u32 x.2.id, .int .u32 x.2.pe, .int .i64 x.2.ki, .int .i64 x.2.fr, .int .i64 x.2.to, .string x.2.co, .int .i64 x.2.nu, .string x.2.tx] w4) := Lib.hid (by rw [← hw4, ← hkb]; exact Bk.new _ _ _)
    have HB4 : Hid (Below w2.heap.size w2 w4) := Lib.hid (by rw [← hw4]; exact bAlloc _ _)
    have HR4 : Hid (Bk rb 67 #[.int .i64 0, .int .i64 0, .string ⟨#[]⟩] w4) := Lib.hid ((HB4.out.block rb HK2.out.lt).trans HK2.out)
    have HE4 := Lib.hid (And.intro hkb hw4)
    clear hat hx hkb hw4
    go_upto_region 4 with fail
    rw [HE4.out.1, HE4.out.2]
    clear G0 G1 G2 G3 G4 G5 G6 G7 G8 HE4 L0
    have E0 : w4.cell? ⟨kb, 0, none⟩ = some (.int .i64 x.1) := HK4.out.cell 0
    have E7 : w4.cell? ⟨kb, 7, none⟩ = some (.int .i64 x.2.nu) := HK4.out.cell 7
    have E8 : w4.cell? ⟨kb, 8, none⟩ = some (.string x.2.tx) := HK4.out.cell 8
    have R0 : w4.cell? ⟨rb, 0, none⟩ = some (.int .i64 0) := HR4.out.cell 0
    have R1 : w4.cell? ⟨rb, 1, none⟩ = some (.int .i64 0) := HR4.out.cell 1
    have R2 : w4.cell? ⟨rb, 2, none⟩ = some (.string ⟨#[]⟩) := HR4.out.cell 2
    have S0 : w4.frozen? ⟨rb, 0, none⟩ = false := HR4.out.frozen 0
    have S1 : w4.frozen? ⟨rb, 1, none⟩ = false := HR4.out.frozen 1
    have S2 : w4.frozen? ⟨rb, 2, none⟩ = false := HR4.out.frozen 2
    obtain ⟨wz, hwz⟩ : ∃ z, ((w4.setCell ⟨rb, 0, none⟩ (.int .i64 x.1)).setCell ⟨rb, 1, none⟩ (.int .i64 x.2.nu)).setCell ⟨rb, 2, none⟩ (.string x.2.tx) = z := ⟨_, rfl⟩
    have hz := ((HR4.out.set_ 0 (.int .i64 x.1)).set_ 1 (.int .i64 x.2.nu)).set_ 2 (.string x.2.tx)
    have HFIN : Hid (Below w.heap.size w wz) := Lib.hid (by rw [← hwz]; exact (((bTrans HB2.out HB4.out).setCell (p := ⟨rb, 0, none⟩) HRW.out _).setCell (p := ⟨rb, 1, none⟩) HRW.out _).setCell (p := ⟨rb, 2, none⟩) HRW.out _)
    rw [hwz] at hz
    have z0 : wz.cell? ⟨rb, 0, none⟩ = some (.int .i64 x.1) := hz.cell 0
    have z1 : wz.cell? ⟨rb, 1, none⟩ = some (.int .i64 x.2.nu) := hz.cell 1
    have z2 : wz.cell? ⟨rb, 2, none⟩ = some (.string x.2.tx) := hz.cell 2
    clear hz
    go_wp2
    exact bodyPost_ret (v := .agg #[.int .i64 x.1, .int .i64 x.2.nu, .string x.2.tx]) (by simp [results, Tryz.results97, go_sem, z0, z1, z2]) rfl ⟨by rw [HV.out], HFIN.out⟩
set_option maxHeartbeats 4000000 in
set_option maxRecDepth 100000 in
theorem li_At (X : List Kn) (d : Int) (A : Option Addr) (cap : Nat) (w : World) (hn : X.length ≤ 1000000) (hs : SlK1 w A X) :
    Calls Tryz.prog 65 #[.agg #[.slice A X.length cap], .int .i64 d] w fun e w' => e = .returned (.tuple #[.agg #[.int .i64 (valL X (plc X d X.length)).1, .int .i64 (valL X (plc X d X.length)).2.1, .string (valL X (plc X d X.length)).2.2], .bool (decide (0 ≤ plc X d X.length))]) ∧ Below w.heap.size w w' := by
  obtain ⟨lb, hlb⟩ : ∃ x, w.heap.size = x := ⟨_, rfl⟩
  obtain ⟨rb, hrb⟩ : ∃ x, lb + 1 = x := ⟨_, rfl⟩
  obtain ⟨w2, hw2⟩ : ∃ x, (w.alloc (.cells #[.slice A X.length cap] 137)).alloc (.cells #[.int .i64 0, .int .i64 0, .string ⟨#[]⟩] 67) = x := ⟨_, rfl⟩
  obtain ⟨k1, k2, k3⟩ := bkk2 w _ _ _ _ hlb hrb hw2
  have HB2 := Lib.hid k3
  have HRW : Hid (w.heap.size ≤ rb) := Lib.hid (by omega)
  have HC : Hid (∀ W, Below w2.heap.size w2 W → W.cell? ⟨lb, 0, none⟩ = some (.slice A X.length cap) ∧ SlK1 W A X ∧ Bk rb 67 #[.int .i64 0, .int .i64 0, .string ⟨#[]⟩] W) := Lib.hid fun W hW => ⟨bCell hW (k1.cell 0), sl_bel hs (bTrans k3 hW), (hW.block rb k2.lt).trans k2⟩
  have HE2 := Lib.hid (And.intro hlb (And.intro hrb hw2))
  clear hs hlb hrb hw2 k1 k2 k3
  have HPB := Lib.hid (plc_bd X d X.length)
  obtain ⟨q, hq⟩ : ∃ q, plc X d X.length = q := ⟨_, rfl⟩
  rw [hq] at HPB
  rw [hq]
  have HQ := Lib.hid hq
  obtain ⟨v1, hv1⟩ : ∃ z, (valL X q).1 = z := ⟨_, rfl⟩
  obtain ⟨v2, hv2⟩ : ∃ z, (valL X q).2.1 = z := ⟨_, rfl⟩
  obtain ⟨v3, hv3⟩ : ∃ z, (valL X q).2.2 = z := ⟨_, rfl⟩
  rw [hv1, hv2, hv3]
  have HVV := Lib.hid (And.intro hv1 (And.intro hv2 hv3))
  clear hq hv1 hv2 hv3
  go_enter Tryz.func65, Tryz.ntmps65
  go_upto_region 1 with fail
  rw [HE2.out.1, HE2.out.2.1, HE2.out.2.2]
  clear HE2
  obtain ⟨c0, hs2, _⟩ := HC.out w2 (Below.refl _ _)
  have hp := li_place X d A cap w2 hn hs2
  rw [HQ.out] at hp
  have HP := Lib.hid hp
  clear hs2 hp
  go_wp2_with fail
  refine HP.out.mono ?_
  rintro e w3 ⟨rfl, hb3⟩
  have HB3 := Lib.hid hb3
  clear c0 hb3 HP
  obtain ⟨c0, hs3, _⟩ := HC.out w3 HB3.out
  have HV := Lib.hid (li_value X q A cap w3 hs3 (by
    rcases HPB.out with h | ⟨j, h1, _, h3⟩
    · exact .inl h
    · exact .inr ⟨j, h1, h3⟩))
  rw [HVV.out.1, HVV.out.2.1, HVV.out.2.2] at HV
  clear hs3
  go_wp2_with fail
  refine HV.out.mono ?_
  rintro e w4 ⟨rfl, hb4⟩
  have HB4 := Lib.hid (bTrans HB3.out hb4)
  clear c0 hb4 HV
  obtain ⟨_, _, hr4⟩ := HC.out w4 HB4.out
  have R0 : w4.cell? ⟨rb, 0, none⟩ = some (.int .i64 0) := hr4.cell 0
  have R1 : w4.cell? ⟨rb, 1, none⟩ = some (.int .i64 0) := hr4.cell 1
  have R2 : w4.cell? ⟨rb, 2, none⟩ = some (.string ⟨#[]⟩) := hr4.cell 2
  have S0 : w4.frozen? ⟨rb, 0, none⟩ = false := hr4.frozen 0
  have S1 : w4.frozen? ⟨rb, 1, none⟩ = false := hr4.frozen 1
  have S2 : w4.frozen? ⟨rb, 2, none⟩ = false := hr4.frozen 2
  obtain ⟨wz, hwz⟩ : ∃ z, ((w4.setCell ⟨rb, 0, none⟩ (.int .i64 v1)).setCell ⟨rb, 1, none⟩ (.int .i64 v2)).setCell ⟨rb, 2, none⟩ (.string v3) = z := ⟨_, rfl⟩
  have hz := ((hr4.set_ 0 (.int .i64 v1)).set_ 1 (.int .i64 v2)).set_ 2 (.string v3)
  have HFIN : Hid (Below w.heap.size w wz) := Lib.hid (by rw [← hwz]; exact (((bTrans HB2.out HB4.out).setCell (p := ⟨rb, 0, none⟩) HRW.out _).setCell (p := ⟨rb, 1, none⟩) HRW.out _).setCell (p := ⟨rb, 2, none⟩) HRW.out _)
  rw [hwz] at hz
  have z0 : wz.cell? ⟨rb, 0, none⟩ = some (.int .i64 v1) := hz.cell 0
  have z1 : wz.cell? ⟨rb, 1, none⟩ = some (.int .i64 v2) := hz.cell 1
  have z2 : wz.cell? ⟨rb, 2, none⟩ = some (.string v3) := hz.cell 2
  clear hz hr4
  go_wp2
  exact bodyPost_ret (v := .tuple #[.agg #[.int .i64 v1, .int .i64 v2, .string v3], .bool (decide (0 ≤ q))]) (by simp [results, Tryz.results65, go_sem, z0, z1, z2]) rfl ⟨rfl, HFIN.out⟩
end Go.Proofs.YtgheloooibafcaaGreatDoor
