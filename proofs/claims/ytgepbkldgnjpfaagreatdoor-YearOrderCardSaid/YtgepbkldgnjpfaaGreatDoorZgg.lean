/- Out of: Yd2 Yc5 Yd3. -/
import Derived.Test.YtgepbkldgnjpfaaGreatDoorZge
import Derived.Test.YtgepbkldgnjpfaaGreatDoorZgf
import Derived.Maps.AppendAt
/- social.Step. -/
namespace Go.Proofs.YtgepbkldgnjpfaaGreatDoor
open Go.RowKit Go.Sort Go.BigFrame

abbrev S4 := Int × Int × Int × Int
/-- What is added to what is insured. -/
def insP (was : S4) (x : Sch) (base : Int) : Int := max ((if 0 < x.2.2.2 then min (was.1 + base) x.2.2.2 else was.1 + base) - was.2.1) 0
/-- The sums behind a step. -/
def nowS (was : S4) (x : Sch) (base : Int) : S4 := (was.1 + base, was.2.1 + insP was x base, was.2.2.1 + (ofN (min (insP was x base) 1125899906842624).toNat x.2.1.toNat : Int), was.2.2.2 + (ofN (min (insP was x base) 1125899906842624).toNat x.2.2.1.toNat : Int))
def stpS (was : S4) (x : Sch) (base : Int) : S4 × Int :=
  if sumB was.1 was.2.1 was.2.2.1 was.2.2.2 = false then ((0, 0, 0, 0), 2)
  else if wroE x ≠ 0 then ((0, 0, 0, 0), wroE x)
  else if fitB base = false then ((0, 0, 0, 0), 2)
  else if sumB (nowS was x base).1 (nowS was x base).2.1 (nowS was x base).2.2.1 (nowS was x base).2.2.2 = false then ((0, 0, 0, 0), 9)
  else (nowS was x base, 0)
def aggS (x : S4) : Value := .agg #[.int .i64 x.1, .int .i64 x.2.1, .int .i64 x.2.2.1, .int .i64 x.2.2.2]
theorem sumB_bd {a b c d : Int} (h : sumB a b c d = true) : (-1125899906842624 ≤ a ∧ a ≤ 1125899906842624) ∧ (0 ≤ b ∧ b ≤ 1125899906842624) ∧ (0 ≤ c ∧ c ≤ 1125899906842624) ∧ 0 ≤ d ∧ d ≤ 1125899906842624 := by
  unfold sumB at h
  simp only [Bool.and_eq_true] at h
  exact ⟨fitB_bd h.1, amtB_bd h.2.1, amtB_bd h.2.2.1, amtB_bd h.2.2.2⟩
theorem wroE_ok {x : Sch} (h : wroE x = 0) : nameB (ls x.1) = true ∧ (0 ≤ x.2.1 ∧ x.2.1 ≤ 1000000) ∧ (0 ≤ x.2.2.1 ∧ x.2.2.1 ≤ 1000000) ∧ 0 ≤ x.2.2.2 ∧ x.2.2.2 ≤ 1125899906842624 := by
  unfold wroE at h
  split at h
  · cases h
  split at h
  · cases h
  rename_i h1 h2
  have h3 : amtB x.2.2.2 = true := by
    cases hq : amtB x.2.2.2
    · exact absurd (by simp [hq]) h2
    · rfl
  exact ⟨by simpa using h1, by omega, by omega, amtB_bd h3⟩
theorem bk_set4 {rb : Nat} {t : TypeId} {x0 x1 x2 x3 : Value} {w : World} (h : Bk rb t #[x0, x1, x2, x3] w) (u0 u1 u2 u3 : Value) : Bk rb t #[u0, u1, u2, u3] ((((w.setCell ⟨rb, 0, none⟩ u0).setCell ⟨rb, 1, none⟩ u1).setCell ⟨rb, 2, none⟩ u2).setCell ⟨rb, 3, none⟩ u3) := (((h.set_ 0 u0).set_ 1 u1).set_ 2 u2).set_ 3 u3
theorem bkSetO {g h : Nat} {t : TypeId} {cs : Array Value} {w : World} (k : Bk g t cs w) (hne : h ≠ g) (o : Nat) (u : Value) : Bk g t cs (w.setCell ⟨h, o, none⟩ u) := by
  refine Eq.trans ?_ k
  exact Below.heap_setCell w ⟨h, o, none⟩ u g hne.symm
theorem below_set4 {rb B : Nat} {w w1 : World} (h : Below B w w1) (hb : B ≤ rb) (u0 u1 u2 u3 : Value) : Below B w ((((w1.setCell ⟨rb, 0, none⟩ u0).setCell ⟨rb, 1, none⟩ u1).setCell ⟨rb, 2, none⟩ u2).setCell ⟨rb, 3, none⟩ u3) := (((h.setCell (p := ⟨rb, 0, none⟩) hb _).setCell (p := ⟨rb, 1, none⟩) hb _).setCell (p := ⟨rb, 2, none⟩) hb _).setCell (p := ⟨rb, 3, none⟩) hb _
set_option maxHeartbeats 4000000 in
set_option maxRecDepth 100000 in
theorem so_Step (a b c d : Int) (co : ByteArray) (wo fi ce base : Int) (w : World) (hco : co.size ≤ 9223372036854775807) :
    Calls Tryz.prog 78 #[.agg #[.int .i64 a, .int .i64 b, .int .i64 c, .int .i64 d], .agg #[.string co, .int .i64 wo, .int .i64 fi, .int .i64 ce], .int .i64 base] w fun e w' => e = .returned (.tuple #[aggS (stpS (a, b, c, d) (co, wo, fi, ce) base).1, .int .i64 (stpS (a, b, c, d) (co, wo, fi, ce) base).2]) ∧ Below w.heap.size w w' := by
  obtain ⟨R, hR⟩ : ∃ R, stpS (a, b, c, d) (co, wo, fi, ce) base = R := ⟨_, rfl⟩
  rw [hR]
  obtain ⟨ip, hip⟩ : ∃ y, insP (a, b, c, d) (co, wo, fi, ce) base = y := ⟨_, rfl⟩
  obtain ⟨⟨n1, n2, n3, n4⟩, hnow⟩ : ∃ y, nowS (a, b, c, d) (co, wo, fi, ce) base = y := ⟨_, rfl⟩
  obtain ⟨sb1, hsb1⟩ : ∃ y, sumB a b c d = y := ⟨_, rfl⟩
  obtain ⟨we, hwe⟩ : ∃ y, wroE (co, wo, fi, ce) = y := ⟨_, rfl⟩
  obtain ⟨fg, hfg⟩ : ∃ y, fitB base = y := ⟨_, rfl⟩
  obtain ⟨sb2, hsb2⟩ : ∃ y, sumB n1 n2 n3 n4 = y := ⟨_, rfl⟩
  have HR : Hid (R = if sb1 = false then ((0, 0, 0, 0), 2) else if we ≠ 0 then ((0, 0, 0, 0), we) else if fg = false then ((0, 0, 0, 0), 2) else if sb2 = false then ((0, 0, 0, 0), 9) else ((n1, n2, n3, n4), 0)) := Lib.hid (by
    rw [← hR]
    unfold stpS
    rw [hnow]
    simp only
    rw [hsb1, hwe, hfg, hsb2])
  have HB1 : Hid (sb1 = true → _) := Lib.hid fun h => sumB_bd (hsb1.trans h)
  have HB2 : Hid (we = 0 → _) := Lib.hid fun h => wroE_ok (hwe.trans h)
  have HB3 : Hid (fg = true → _) := Lib.hid fun h => fitB_bd (hfg.trans h)
  have H1 : Hid (∀ W, Calls Tryz.prog 100 #[.agg #[.int .i64 a, .int .i64 b, .int .i64 c, .int .i64 d]] W fun e w' => e = .returned (.bool sb1) ∧ Below W.heap.size W w') := Lib.hid fun W => by rw [← hsb1]; exact so_right a b c d W
  have H2 : Hid (∀ W, Calls Tryz.prog 101 #[.agg #[.string co, .int .i64 wo, .int .i64 fi, .int .i64 ce]] W fun e w' => e = .returned (.int .i64 we) ∧ Below W.heap.size W w') := Lib.hid fun W => by rw [← hwe]; exact so_wrong co wo fi ce W hco
  have H3 : Hid (∀ W, Calls Tryz.prog 22 #[.int .i64 base] W fun e w' => e = .returned (.bool fg) ∧ W = w') := Lib.hid fun W => by rw [← hfg]; exact ce_fit base W
  have H4 : Hid (∀ W, Calls Tryz.prog 100 #[.agg #[.int .i64 n1, .int .i64 n2, .int .i64 n3, .int .i64 n4]] W fun e w' => e = .returned (.bool sb2) ∧ Below W.heap.size W w') := Lib.hid fun W => by rw [← hsb2]; exact so_right n1 n2 n3 n4 W
  have HNW : Hid (a + base = n1 ∧ b + ip = n2 ∧ c + (ofN (min ip 1125899906842624).toNat wo.toNat : Int) = n3 ∧ d + (ofN (min ip 1125899906842624).toNat fi.toNat : Int) = n4) := Lib.hid (by
    unfold nowS at hnow
    rw [hip] at hnow
    simp only [Prod.mk.injEq] at hnow
    exact hnow)
  have HIP : Hid (max ((if 0 < ce then min (a + base) ce else a + base) - b) 0 = ip) := Lib.hid (by rw [← hip]; rfl)
  clear hR hip hnow hsb1 hwe hfg hsb2 hco
  obtain ⟨ab, hab⟩ : ∃ x, w.heap.size = x := ⟨_, rfl⟩
  obtain ⟨hb, hhb⟩ : ∃ x, ab + 1 = x := ⟨_, rfl⟩
  obtain ⟨rb, hrb⟩ : ∃ x, hb + 1 = x := ⟨_, rfl⟩
  obtain ⟨wa, hwa⟩ : ∃ x, ((w.alloc (.cells #[.int .i64 a, .int .i64 b, .int .i64 c, .int .i64 d] 89)).alloc (.cells #[.string co, .int .i64 wo, .int .i64 fi, .int .i64 ce] 57)).alloc (.cells #[.int .i64 0, .int .i64 0, .int .i64 0, .int .i64 0] 89) = x := ⟨_, rfl⟩
  have k0 : Bk ab 89 #[.int .i64 a, .int .i64 b, .int .i64 c, .int .i64 d] wa := by rw [← hwa, ← hab]; exact (Bk.new _ _ _).grows ((Grows.of_alloc _ _).alloc _)
  have k1 : Bk hb 57 #[.string co, .int .i64 wo, .int .i64 fi, .int .i64 ce] wa := by
    have := Bk.new (w.alloc (.cells #[.int .i64 a, .int .i64 b, .int .i64 c, .int .i64 d] 89)) 57 #[.string co, .int .i64 wo, .int .i64 fi, .int .i64 ce]
    rw [show (w.alloc (.cells #[.int .i64 a, .int .i64 b, .int .i64 c, .int .i64 d] 89)).heap.size = hb by simp; omega] at this
    rw [← hwa]; exact this.grows (Grows.of_alloc _ _)
  have k2 : Bk rb 89 #[.int .i64 0, .int .i64 0, .int .i64 0, .int .i64 0] wa := by
    have := Bk.new ((w.alloc (.cells #[.int .i64 a, .int .i64 b, .int .i64 c, .int .i64 d] 89)).alloc (.cells #[.string co, .int .i64 wo, .int .i64 fi, .int .i64 ce] 57)) 89 #[.int .i64 0, .int .i64 0, .int .i64 0, .int .i64 0]
    rw [show ((w.alloc (.cells #[.int .i64 a, .int .i64 b, .int .i64 c, .int .i64 d] 89)).alloc (.cells #[.string co, .int .i64 wo, .int .i64 fi, .int .i64 ce] 57)).heap.size = rb by simp; omega] at this
    rw [hwa] at this; exact this
  have HBA : Hid (Below w.heap.size w wa) := Lib.hid (by rw [← hwa]; exact (((Grows.of_alloc _ _).alloc _).alloc _).below)
  have HSZ : Hid (w.heap.size ≤ rb) := Lib.hid (by omega)
  have HK : Hid (Bk ab 89 #[.int .i64 a, .int .i64 b, .int .i64 c, .int .i64 d] wa ∧ Bk hb 57 #[.string co, .int .i64 wo, .int .i64 fi, .int .i64 ce] wa ∧ Bk rb 89 #[.int .i64 0, .int .i64 0, .int .i64 0, .int .i64 0] wa) := Lib.hid ⟨k0, k1, k2⟩
  clear k0 k1 k2
  have HE := Lib.hid (And.intro hab (And.intro hhb (And.intro hrb hwa)))
  clear hab hhb hrb hwa
  go_enter Tryz.func78, Tryz.ntmps78
  go_upto_region 1 with fail
  simp only [HE.out.1, HE.out.2.1, HE.out.2.2.1, HE.out.2.2.2]
  clear HE
  obtain ⟨kk0, kk1, kk2⟩ := HK.out
  have C0 : wa.cell? ⟨ab, 0, none⟩ = some (.int .i64 a) := kk0.cell 0
  have C1 : wa.cell? ⟨ab, 1, none⟩ = some (.int .i64 b) := kk0.cell 1
  have C2 : wa.cell? ⟨ab, 2, none⟩ = some (.int .i64 c) := kk0.cell 2
  have C3 : wa.cell? ⟨ab, 3, none⟩ = some (.int .i64 d) := kk0.cell 3
  clear kk0 kk1 kk2
  go_wp2_with fail
  refine (H1.out _).mono ?_
  rintro e w1 ⟨rfl, hb1⟩
  have HB1' := Lib.hid hb1
  clear hb1 C0 C1 C2 C3
  obtain ⟨kk0, kk1, kk2⟩ := HK.out
  have HK1 : Hid (Bk ab 89 #[.int .i64 a, .int .i64 b, .int .i64 c, .int .i64 d] w1 ∧ Bk hb 57 #[.string co, .int .i64 wo, .int .i64 fi, .int .i64 ce] w1 ∧ Bk rb 89 #[.int .i64 0, .int .i64 0, .int .i64 0, .int .i64 0] w1) := Lib.hid ⟨bkBel kk0 HB1'.out, bkBel kk1 HB1'.out, bkBel kk2 HB1'.out⟩
  have HBW : Hid (Below w.heap.size w w1) := Lib.hid (bTrans HBA.out HB1'.out)
  clear kk0 kk1 kk2 HK HB1' HBA
  cases sb1 with
  | false =>
    have HE : Hid (R = ((0, 0, 0, 0), 2)) := Lib.hid (by rw [HR.out, if_pos rfl])
    obtain ⟨y, hy⟩ : ∃ y, ((((w1.setCell ⟨rb, 0, none⟩ (.int .i64 0)).setCell ⟨rb, 1, none⟩ (.int .i64 0)).setCell ⟨rb, 2, none⟩ (.int .i64 0)).setCell ⟨rb, 3, none⟩ (.int .i64 0)) = y := ⟨_, rfl⟩
    have hky : Bk rb 89 #[.int .i64 0, .int .i64 0, .int .i64 0, .int .i64 0] y := by rw [← hy]; exact bk_set4 HK1.out.2.2 _ _ _ _
    have HBY : Hid (Below w.heap.size w y) := Lib.hid (by rw [← hy]; exact below_set4 HBW.out HSZ.out _ _ _ _)
    have r0 : y.cell? ⟨rb, 0, none⟩ = some (.int .i64 0) := hky.cell 0
    have r1 : y.cell? ⟨rb, 1, none⟩ = some (.int .i64 0) := hky.cell 1
    have r2 : y.cell? ⟨rb, 2, none⟩ = some (.int .i64 0) := hky.cell 2
    have r3 : y.cell? ⟨rb, 3, none⟩ = some (.int .i64 0) := hky.cell 3
    have q0 : w1.cell? ⟨rb, 0, none⟩ = some (.int .i64 0) := HK1.out.2.2.cell 0
    have q1 : w1.cell? ⟨rb, 1, none⟩ = some (.int .i64 0) := HK1.out.2.2.cell 1
    have q2 : w1.cell? ⟨rb, 2, none⟩ = some (.int .i64 0) := HK1.out.2.2.cell 2
    have q3 : w1.cell? ⟨rb, 3, none⟩ = some (.int .i64 0) := HK1.out.2.2.cell 3
    have f0 : w1.frozen? ⟨rb, 0, none⟩ = false := HK1.out.2.2.frozen 0
    have f1 : w1.frozen? ⟨rb, 1, none⟩ = false := HK1.out.2.2.frozen 1
    have f2 : w1.frozen? ⟨rb, 2, none⟩ = false := HK1.out.2.2.frozen 2
    have f3 : w1.frozen? ⟨rb, 3, none⟩ = false := HK1.out.2.2.frozen 3
    clear hky
    go_wp2
    exact bodyPost_ret (v := .tuple #[.agg #[.int .i64 0, .int .i64 0, .int .i64 0, .int .i64 0], .int .i64 2]) (by simp [results, Tryz.results78, go_sem, r0, r1, r2, r3]) rfl ⟨by rw [HE.out]; rfl, HBY.out⟩
  | true =>
  have HBD := Lib.hid (HB1.out rfl)
  obtain ⟨kk0, kk1, kk2⟩ := HK1.out
  have C0 : w1.cell? ⟨hb, 0, none⟩ = some (.string co) := kk1.cell 0
  have C1 : w1.cell? ⟨hb, 1, none⟩ = some (.int .i64 wo) := kk1.cell 1
  have C2 : w1.cell? ⟨hb, 2, none⟩ = some (.int .i64 fi) := kk1.cell 2
  have C3 : w1.cell? ⟨hb, 3, none⟩ = some (.int .i64 ce) := kk1.cell 3
  clear kk0 kk1 kk2
  go_wp2_with fail
  refine (H2.out _).mono ?_
  rintro e w2 ⟨rfl, hb2⟩
  obtain ⟨kk0, kk1, kk2⟩ := HK1.out
  have HK2 : Hid (Bk ab 89 #[.int .i64 a, .int .i64 b, .int .i64 c, .int .i64 d] w2 ∧ Bk hb 57 #[.string co, .int .i64 wo, .int .i64 fi, .int .i64 ce] w2 ∧ Bk rb 89 #[.int .i64 0, .int .i64 0, .int .i64 0, .int .i64 0] w2) := Lib.hid ⟨bkBel kk0 hb2, bkBel kk1 hb2, bkBel kk2 hb2⟩
  have HBW2 : Hid (Below w.heap.size w w2) := Lib.hid (bTrans HBW.out hb2)
  clear kk0 kk1 kk2 HK1 hb2 HBW C0 C1 C2 C3
  by_cases hwe : we = 0
  case neg =>
    have n1 : (we != 0) = true := by simpa using hwe
    have HE : Hid (R = ((0, 0, 0, 0), we)) := Lib.hid (by rw [HR.out, if_neg (by simp), if_pos hwe])
    clear hwe
    obtain ⟨y, hy⟩ : ∃ y, ((((w2.setCell ⟨rb, 0, none⟩ (.int .i64 0)).setCell ⟨rb, 1, none⟩ (.int .i64 0)).setCell ⟨rb, 2, none⟩ (.int .i64 0)).setCell ⟨rb, 3, none⟩ (.int .i64 0)) = y := ⟨_, rfl⟩
    have hky : Bk rb 89 #[.int .i64 0, .int .i64 0, .int .i64 0, .int .i64 0] y := by rw [← hy]; exact bk_set4 HK2.out.2.2 _ _ _ _
    have HBY : Hid (Below w.heap.size w y) := Lib.hid (by rw [← hy]; exact below_set4 HBW2.out HSZ.out _ _ _ _)
    have r0 : y.cell? ⟨rb, 0, none⟩ = some (.int .i64 0) := hky.cell 0
    have r1 : y.cell? ⟨rb, 1, none⟩ = some (.int .i64 0) := hky.cell 1
    have r2 : y.cell? ⟨rb, 2, none⟩ = some (.int .i64 0) := hky.cell 2
    have r3 : y.cell? ⟨rb, 3, none⟩ = some (.int .i64 0) := hky.cell 3
    have q0 : w2.cell? ⟨rb, 0, none⟩ = some (.int .i64 0) := HK2.out.2.2.cell 0
    have q1 : w2.cell? ⟨rb, 1, none⟩ = some (.int .i64 0) := HK2.out.2.2.cell 1
    have q2 : w2.cell? ⟨rb, 2, none⟩ = some (.int .i64 0) := HK2.out.2.2.cell 2
    have q3 : w2.cell? ⟨rb, 3, none⟩ = some (.int .i64 0) := HK2.out.2.2.cell 3
    have f0 : w2.frozen? ⟨rb, 0, none⟩ = false := HK2.out.2.2.frozen 0
    have f1 : w2.frozen? ⟨rb, 1, none⟩ = false := HK2.out.2.2.frozen 1
    have f2 : w2.frozen? ⟨rb, 2, none⟩ = false := HK2.out.2.2.frozen 2
    have f3 : w2.frozen? ⟨rb, 3, none⟩ = false := HK2.out.2.2.frozen 3
    clear hky
    go_wp2
    exact bodyPost_ret (v := .tuple #[.agg #[.int .i64 0, .int .i64 0, .int .i64 0, .int .i64 0], .int .i64 we]) (by simp [results, Tryz.results78, go_sem, r0, r1, r2, r3]) rfl ⟨by rw [HE.out]; rfl, HBY.out⟩
  subst hwe
  have HWB := Lib.hid (HB2.out rfl)
  go_wp2_with fail
  refine (H3.out _).mono ?_
  rintro e w3 ⟨rfl, rfl⟩
  cases fg with
  | false =>
    have HE : Hid (R = ((0, 0, 0, 0), 2)) := Lib.hid (by rw [HR.out, if_neg (by simp), if_neg (by simp), if_pos rfl])
    obtain ⟨y, hy⟩ : ∃ y, ((((w2.setCell ⟨rb, 0, none⟩ (.int .i64 0)).setCell ⟨rb, 1, none⟩ (.int .i64 0)).setCell ⟨rb, 2, none⟩ (.int .i64 0)).setCell ⟨rb, 3, none⟩ (.int .i64 0)) = y := ⟨_, rfl⟩
    have hky : Bk rb 89 #[.int .i64 0, .int .i64 0, .int .i64 0, .int .i64 0] y := by rw [← hy]; exact bk_set4 HK2.out.2.2 _ _ _ _
    have HBY : Hid (Below w.heap.size w y) := Lib.hid (by rw [← hy]; exact below_set4 HBW2.out HSZ.out _ _ _ _)
    have r0 : y.cell? ⟨rb, 0, none⟩ = some (.int .i64 0) := hky.cell 0
    have r1 : y.cell? ⟨rb, 1, none⟩ = some (.int .i64 0) := hky.cell 1
    have r2 : y.cell? ⟨rb, 2, none⟩ = some (.int .i64 0) := hky.cell 2
    have r3 : y.cell? ⟨rb, 3, none⟩ = some (.int .i64 0) := hky.cell 3
    have q0 : w2.cell? ⟨rb, 0, none⟩ = some (.int .i64 0) := HK2.out.2.2.cell 0
    have q1 : w2.cell? ⟨rb, 1, none⟩ = some (.int .i64 0) := HK2.out.2.2.cell 1
    have q2 : w2.cell? ⟨rb, 2, none⟩ = some (.int .i64 0) := HK2.out.2.2.cell 2
    have q3 : w2.cell? ⟨rb, 3, none⟩ = some (.int .i64 0) := HK2.out.2.2.cell 3
    have f0 : w2.frozen? ⟨rb, 0, none⟩ = false := HK2.out.2.2.frozen 0
    have f1 : w2.frozen? ⟨rb, 1, none⟩ = false := HK2.out.2.2.frozen 1
    have f2 : w2.frozen? ⟨rb, 2, none⟩ = false := HK2.out.2.2.frozen 2
    have f3 : w2.frozen? ⟨rb, 3, none⟩ = false := HK2.out.2.2.frozen 3
    clear hky
    go_wp2
    exact bodyPost_ret (v := .tuple #[.agg #[.int .i64 0, .int .i64 0, .int .i64 0, .int .i64 0], .int .i64 2]) (by simp [results, Tryz.results78, go_sem, r0, r1, r2, r3]) rfl ⟨by rw [HE.out]; rfl, HBY.out⟩
  | true =>
  have HFB := Lib.hid (HB3.out rfl)
  have HR2 : Hid (R = if sb2 = false then ((0, 0, 0, 0), 9) else ((n1, n2, n3, n4), 0)) := Lib.hid (by rw [HR.out, if_neg (by simp), if_neg (by simp), if_neg (by simp)])
  clear HR H1 H2 H3 HB1 HB2 HB3
  obtain ⟨hn1, hn2, hn3, hn4⟩ := HNW.out
  obtain ⟨tp, htp⟩ : ∃ y, (if 0 < ce then min (a + base) ce else a + base) = y := ⟨_, rfl⟩
  obtain ⟨pm, hpm⟩ : ∃ y, min ip 1125899906842624 = y := ⟨_, rfl⟩
  have hipd := HIP.out
  rw [htp] at hipd
  rw [hpm] at hn3 hn4
  have hbd := HBD.out
  have hwb := HWB.out
  have hfb := HFB.out
  have htb : -2251799813685248 ≤ tp ∧ tp ≤ 2251799813685248 := by rw [← htp]; split <;> omega
  have hle1 := ofN_le pm.toNat wo.toNat (by omega)
  have hle2 := ofN_le pm.toNat fi.toNat (by omega)
  obtain ⟨q1, hq1⟩ : ∃ q, ofN pm.toNat wo.toNat = q := ⟨_, rfl⟩
  obtain ⟨q2, hq2⟩ : ∃ q, ofN pm.toNat fi.toNat = q := ⟨_, rfl⟩
  have HO1 : Hid (∀ W, Calls Tryz.prog 99 #[.int .i64 pm, .int .i64 wo, .int .i64 1] W fun e w' => e = .returned (.tuple #[.int .i64 q1, .int .i64 0]) ∧ Below W.heap.size W w') := Lib.hid fun W => by
    have h := rt_of pm.toNat wo.toNat W (by omega) (by omega)
    rw [hq1, show ((pm.toNat : Nat) : Int) = pm by omega, show ((wo.toNat : Nat) : Int) = wo by omega] at h
    exact h
  have HO2 : Hid (∀ W, Calls Tryz.prog 99 #[.int .i64 pm, .int .i64 fi, .int .i64 1] W fun e w' => e = .returned (.tuple #[.int .i64 q2, .int .i64 0]) ∧ Below W.heap.size W w') := Lib.hid fun W => by
    have h := rt_of pm.toNat fi.toNat W (by omega) (by omega)
    rw [hq2, show ((pm.toNat : Nat) : Int) = pm by omega, show ((fi.toNat : Nat) : Int) = fi by omega] at h
    exact h
  rw [hq1] at hn3 hle1
  rw [hq2] at hn4 hle2
  have hpt : (pm.toNat : Int) ≤ 1125899906842624 := by omega
  have v1 : IntKind.i64.wrap (a + base) = n1 := by rw [IntWalk.i64_in _ (by omega), hn1]
  have v2 : IntKind.i64.wrap (tp - b) = tp - b := IntWalk.i64_in _ (by omega)
  have v3 : IntKind.i64.wrap (b + ip) = n2 := by rw [IntWalk.i64_in _ (by omega), hn2]
  have v4 : IntKind.i64.wrap (c + (q1 : Int)) = n3 := by rw [IntWalk.i64_in _ (by omega), hn3]
  have v5 : IntKind.i64.wrap (d + (q2 : Int)) = n4 := by rw [IntWalk.i64_in _ (by omega), hn4]
  have HTP : Hid ((0 < ce → min n1 ce = tp) ∧ (ce ≤ 0 → n1 = tp)) := Lib.hid (by
    rw [← hn1, ← htp]
    exact ⟨fun h => by rw [if_pos h], fun h => by rw [if_neg (by omega)]⟩)
  clear hn1 hn2 hn3 hn4 htp hbd hwb hfb htb hle1 hle2 hq1 hq2 hpt HNW HIP
  obtain ⟨nb, hnb⟩ : ∃ x, w2.heap.size = x := ⟨_, rfl⟩
  obtain ⟨wd, hwd⟩ : ∃ x, w2.alloc (.cells #[.int .i64 n1, .int .i64 b, .int .i64 c, .int .i64 d] 89) = x := ⟨_, rfl⟩
  have HKd : Hid (Bk ab 89 #[.int .i64 a, .int .i64 b, .int .i64 c, .int .i64 d] wd ∧ Bk hb 57 #[.string co, .int .i64 wo, .int .i64 fi, .int .i64 ce] wd ∧ Bk rb 89 #[.int .i64 0, .int .i64 0, .int .i64 0, .int .i64 0] wd ∧ Bk nb 89 #[.int .i64 n1, .int .i64 b, .int .i64 c, .int .i64 d] wd) := Lib.hid (by
    obtain ⟨kk0, kk1, kk2⟩ := HK2.out
    rw [← hwd]
    exact ⟨kk0.grows (Grows.of_alloc _ _), kk1.grows (Grows.of_alloc _ _), kk2.grows (Grows.of_alloc _ _), by rw [← hnb]; exact Bk.new _ _ _⟩)
  have HBd : Hid (Below w.heap.size w wd) := Lib.hid (by rw [← hwd]; exact bTrans HBW2.out (bAlloc _ _))
  have HNB : Hid (w.heap.size ≤ nb ∧ ab ≠ nb ∧ hb ≠ nb ∧ rb ≠ nb) := Lib.hid (by
    obtain ⟨kk0, kk1, kk2⟩ := HK2.out
    have h0 := kk0.lt
    have h1 := kk1.lt
    have h2 := kk2.lt
    have h3 := HBW2.out.size
    omega)
  obtain ⟨kk0, kk1, kk2⟩ := HK2.out
  have A0 : w2.cell? ⟨ab, 0, none⟩ = some (.int .i64 a) := kk0.cell 0
  have A1 : w2.cell? ⟨ab, 1, none⟩ = some (.int .i64 b) := kk0.cell 1
  have A2 : w2.cell? ⟨ab, 2, none⟩ = some (.int .i64 c) := kk0.cell 2
  have A3 : w2.cell? ⟨ab, 3, none⟩ = some (.int .i64 d) := kk0.cell 3
  clear kk0 kk1 kk2
  go_upto_region 10 with fail
  clear A0 A1 A2 A3 hwd hnb v1
  obtain ⟨kk0, kk1, kk2, kk3⟩ := HKd.out
  have A1 : wd.cell? ⟨ab, 1, none⟩ = some (.int .i64 b) := kk0.cell 1
  have C1 : wd.cell? ⟨hb, 1, none⟩ = some (.int .i64 wo) := kk1.cell 1
  have C3 : wd.cell? ⟨hb, 3, none⟩ = some (.int .i64 ce) := kk1.cell 3
  have N0 : wd.cell? ⟨nb, 0, none⟩ = some (.int .i64 n1) := kk3.cell 0
  have N1 : wd.cell? ⟨nb, 1, none⟩ = some (.int .i64 b) := kk3.cell 1
  have G1 : wd.frozen? ⟨nb, 1, none⟩ = false := kk3.frozen 1
  clear kk0 kk1 kk2 kk3
  go_upto_if 40 with fail
  go_cut [10] from 16 (fun tv wx => tv = .int .i64 tp ∧ wd = wx)
  case first =>
    by_cases h : 0 < ce
    · have dh : decide ((0 : Int) < ce) = true := decide_eq_true h
      have HT := Lib.hid (HTP.out.1 h)
      rw [dh]
      clear h
      go_wp2
      go_meet
      exact ⟨by rw [HT.out], rfl⟩
    · have dh : decide ((0 : Int) < ce) = false := decide_eq_false h
      have HT := Lib.hid (HTP.out.2 (by omega))
      rw [dh]
      clear h
      go_wp2
      go_meet
      exact ⟨by rw [HT.out], rfl⟩
  case rest =>
  obtain ⟨rfl, rfl⟩ := hcut
  obtain ⟨we2, hwe2⟩ : ∃ x, wd.setCell ⟨nb, 1, none⟩ (.int .i64 n2) = x := ⟨_, rfl⟩
  have HKe : Hid (Bk ab 89 #[.int .i64 a, .int .i64 b, .int .i64 c, .int .i64 d] we2 ∧ Bk hb 57 #[.string co, .int .i64 wo, .int .i64 fi, .int .i64 ce] we2 ∧ Bk rb 89 #[.int .i64 0, .int .i64 0, .int .i64 0, .int .i64 0] we2 ∧ Bk nb 89 #[.int .i64 n1, .int .i64 n2, .int .i64 c, .int .i64 d] we2) := Lib.hid (by
    obtain ⟨kk0, kk1, kk2, kk3⟩ := HKd.out
    rw [← hwe2]
    exact ⟨bkSetO kk0 (Ne.symm HNB.out.2.1) _ _, bkSetO kk1 (Ne.symm HNB.out.2.2.1) _ _, bkSetO kk2 (Ne.symm HNB.out.2.2.2) _ _, kk3.set_ 1 _⟩)
  have HBe : Hid (Below w.heap.size w we2) := Lib.hid (by rw [← hwe2]; exact HBd.out.setCell (p := ⟨nb, 1, none⟩) HNB.out.1 _)
  have ha := HNB.out.2.1
  have HWE := Lib.hid hwe2
  have X1 : we2.cell? ⟨hb, 1, none⟩ = some (.int .i64 wo) := HKe.out.2.1.cell 1
  clear hwe2
  go_upto_region 15 with fail
  rw [HWE.out]
  clear HWE A1 C1 C3 N0 N1 G1 ha v2 v3 hipd HKd HBd
  go_wp2_with fail
  refine (HO1.out _).mono ?_
  rintro e w4 ⟨rfl, hb4⟩
  have HK4 : Hid (Bk ab 89 #[.int .i64 a, .int .i64 b, .int .i64 c, .int .i64 d] w4 ∧ Bk hb 57 #[.string co, .int .i64 wo, .int .i64 fi, .int .i64 ce] w4 ∧ Bk rb 89 #[.int .i64 0, .int .i64 0, .int .i64 0, .int .i64 0] w4 ∧ Bk nb 89 #[.int .i64 n1, .int .i64 n2, .int .i64 c, .int .i64 d] w4) := Lib.hid (by
    obtain ⟨kk0, kk1, kk2, kk3⟩ := HKe.out
    exact ⟨bkBel kk0 hb4, bkBel kk1 hb4, bkBel kk2 hb4, bkBel kk3 hb4⟩)
  have HB4 : Hid (Below w.heap.size w w4) := Lib.hid (bTrans HBe.out hb4)
  have X2 : w4.cell? ⟨hb, 2, none⟩ = some (.int .i64 fi) := HK4.out.2.1.cell 2
  clear X1 hb4 HKe HBe
  go_wp2_with fail
  refine (HO2.out _).mono ?_
  rintro e w5 ⟨rfl, hb5⟩
  have HK5 : Hid (Bk ab 89 #[.int .i64 a, .int .i64 b, .int .i64 c, .int .i64 d] w5 ∧ Bk hb 57 #[.string co, .int .i64 wo, .int .i64 fi, .int .i64 ce] w5 ∧ Bk rb 89 #[.int .i64 0, .int .i64 0, .int .i64 0, .int .i64 0] w5 ∧ Bk nb 89 #[.int .i64 n1, .int .i64 n2, .int .i64 c, .int .i64 d] w5) := Lib.hid (by
    obtain ⟨kk0, kk1, kk2, kk3⟩ := HK4.out
    exact ⟨bkBel kk0 hb5, bkBel kk1 hb5, bkBel kk2 hb5, bkBel kk3 hb5⟩)
  have HB5 : Hid (Below w.heap.size w w5) := Lib.hid (bTrans HB4.out hb5)
  clear X2 hb5 HK4 HB4 hpm
  obtain ⟨kk0, kk1, kk2, kk3⟩ := HK5.out
  have N2 : w5.cell? ⟨nb, 2, none⟩ = some (.int .i64 c) := kk3.cell 2
  have N3 : w5.cell? ⟨nb, 3, none⟩ = some (.int .i64 d) := kk3.cell 3
  have G2 : w5.frozen? ⟨nb, 2, none⟩ = false := kk3.frozen 2
  have G3 : w5.frozen? ⟨nb, 3, none⟩ = false := kk3.frozen 3
  clear kk0 kk1 kk2 kk3
  obtain ⟨w6, hw6⟩ : ∃ x, (w5.setCell ⟨nb, 2, none⟩ (.int .i64 n3)).setCell ⟨nb, 3, none⟩ (.int .i64 n4) = x := ⟨_, rfl⟩
  have HK6 : Hid (Bk ab 89 #[.int .i64 a, .int .i64 b, .int .i64 c, .int .i64 d] w6 ∧ Bk hb 57 #[.string co, .int .i64 wo, .int .i64 fi, .int .i64 ce] w6 ∧ Bk rb 89 #[.int .i64 0, .int .i64 0, .int .i64 0, .int .i64 0] w6 ∧ Bk nb 89 #[.int .i64 n1, .int .i64 n2, .int .i64 n3, .int .i64 n4] w6) := Lib.hid (by
    obtain ⟨kk0, kk1, kk2, kk3⟩ := HK5.out
    rw [← hw6]
    exact ⟨bkSetO (bkSetO kk0 (Ne.symm HNB.out.2.1) _ _) (Ne.symm HNB.out.2.1) _ _, bkSetO (bkSetO kk1 (Ne.symm HNB.out.2.2.1) _ _) (Ne.symm HNB.out.2.2.1) _ _, bkSetO (bkSetO kk2 (Ne.symm HNB.out.2.2.2) _ _) (Ne.symm HNB.out.2.2.2) _ _, (kk3.set_ 2 _).set_ 3 _⟩)
  have HB6 : Hid (Below w.heap.size w w6) := Lib.hid (by rw [← hw6]; exact (HB5.out.setCell (p := ⟨nb, 2, none⟩) HNB.out.1 _).setCell (p := ⟨nb, 3, none⟩) HNB.out.1 _)
  have HW6 := Lib.hid hw6
  obtain ⟨kk0, kk1, kk2, kk3⟩ := HK6.out
  have M0 : w6.cell? ⟨nb, 0, none⟩ = some (.int .i64 n1) := kk3.cell 0
  have M1 : w6.cell? ⟨nb, 1, none⟩ = some (.int .i64 n2) := kk3.cell 1
  have M2 : w6.cell? ⟨nb, 2, none⟩ = some (.int .i64 n3) := kk3.cell 2
  have M3 : w6.cell? ⟨nb, 3, none⟩ = some (.int .i64 n4) := kk3.cell 3
  clear kk0 kk1 kk2 kk3 hw6
  go_upto_region 19 with fail
  rw [HW6.out]
  clear HW6 N2 N3 G2 G3 HK5 HB5 v4 v5
  go_wp2_with fail
  refine (H4.out _).mono ?_
  rintro e w7 ⟨rfl, hb7⟩
  have HK7 : Hid (Bk ab 89 #[.int .i64 a, .int .i64 b, .int .i64 c, .int .i64 d] w7 ∧ Bk hb 57 #[.string co, .int .i64 wo, .int .i64 fi, .int .i64 ce] w7 ∧ Bk rb 89 #[.int .i64 0, .int .i64 0, .int .i64 0, .int .i64 0] w7 ∧ Bk nb 89 #[.int .i64 n1, .int .i64 n2, .int .i64 n3, .int .i64 n4] w7) := Lib.hid (by
    obtain ⟨kk0, kk1, kk2, kk3⟩ := HK6.out
    exact ⟨bkBel kk0 hb7, bkBel kk1 hb7, bkBel kk2 hb7, bkBel kk3 hb7⟩)
  have HB7 : Hid (Below w.heap.size w w7) := Lib.hid (bTrans HB6.out hb7)
  clear M0 M1 M2 M3 hb7 HK6 HB6
  cases sb2 with
  | false =>
    have HE : Hid (R = ((0, 0, 0, 0), 9)) := Lib.hid (by rw [HR2.out, if_pos rfl])
    obtain ⟨y, hy⟩ : ∃ y, ((((w7.setCell ⟨rb, 0, none⟩ (.int .i64 0)).setCell ⟨rb, 1, none⟩ (.int .i64 0)).setCell ⟨rb, 2, none⟩ (.int .i64 0)).setCell ⟨rb, 3, none⟩ (.int .i64 0)) = y := ⟨_, rfl⟩
    have hky : Bk rb 89 #[.int .i64 0, .int .i64 0, .int .i64 0, .int .i64 0] y := by rw [← hy]; exact bk_set4 HK7.out.2.2.1 _ _ _ _
    have HBY : Hid (Below w.heap.size w y) := Lib.hid (by rw [← hy]; exact below_set4 HB7.out HSZ.out _ _ _ _)
    have r0 : y.cell? ⟨rb, 0, none⟩ = some (.int .i64 0) := hky.cell 0
    have r1 : y.cell? ⟨rb, 1, none⟩ = some (.int .i64 0) := hky.cell 1
    have r2 : y.cell? ⟨rb, 2, none⟩ = some (.int .i64 0) := hky.cell 2
    have r3 : y.cell? ⟨rb, 3, none⟩ = some (.int .i64 0) := hky.cell 3
    have q0 : w7.cell? ⟨rb, 0, none⟩ = some (.int .i64 0) := HK7.out.2.2.1.cell 0
    have q1 : w7.cell? ⟨rb, 1, none⟩ = some (.int .i64 0) := HK7.out.2.2.1.cell 1
    have q2 : w7.cell? ⟨rb, 2, none⟩ = some (.int .i64 0) := HK7.out.2.2.1.cell 2
    have q3 : w7.cell? ⟨rb, 3, none⟩ = some (.int .i64 0) := HK7.out.2.2.1.cell 3
    have f0 : w7.frozen? ⟨rb, 0, none⟩ = false := HK7.out.2.2.1.frozen 0
    have f1 : w7.frozen? ⟨rb, 1, none⟩ = false := HK7.out.2.2.1.frozen 1
    have f2 : w7.frozen? ⟨rb, 2, none⟩ = false := HK7.out.2.2.1.frozen 2
    have f3 : w7.frozen? ⟨rb, 3, none⟩ = false := HK7.out.2.2.1.frozen 3
    clear hky
    go_wp2
    exact bodyPost_ret (v := .tuple #[.agg #[.int .i64 0, .int .i64 0, .int .i64 0, .int .i64 0], .int .i64 9]) (by simp [results, Tryz.results78, go_sem, r0, r1, r2, r3]) rfl ⟨by rw [HE.out]; rfl, HBY.out⟩
  | true =>
    have HE : Hid (R = ((n1, n2, n3, n4), 0)) := Lib.hid (by rw [HR2.out, if_neg (by simp)])
    obtain ⟨kk0, kk1, kk2, kk3⟩ := HK7.out
    have M0 : w7.cell? ⟨nb, 0, none⟩ = some (.int .i64 n1) := kk3.cell 0
    have M1 : w7.cell? ⟨nb, 1, none⟩ = some (.int .i64 n2) := kk3.cell 1
    have M2 : w7.cell? ⟨nb, 2, none⟩ = some (.int .i64 n3) := kk3.cell 2
    have M3 : w7.cell? ⟨nb, 3, none⟩ = some (.int .i64 n4) := kk3.cell 3
    clear kk0 kk1 kk2 kk3
    obtain ⟨y, hy⟩ : ∃ y, ((((w7.setCell ⟨rb, 0, none⟩ (.int .i64 n1)).setCell ⟨rb, 1, none⟩ (.int .i64 n2)).setCell ⟨rb, 2, none⟩ (.int .i64 n3)).setCell ⟨rb, 3, none⟩ (.int .i64 n4)) = y := ⟨_, rfl⟩
    have hky : Bk rb 89 #[.int .i64 n1, .int .i64 n2, .int .i64 n3, .int .i64 n4] y := by rw [← hy]; exact bk_set4 HK7.out.2.2.1 _ _ _ _
    have HBY : Hid (Below w.heap.size w y) := Lib.hid (by rw [← hy]; exact below_set4 HB7.out HSZ.out _ _ _ _)
    have r0 : y.cell? ⟨rb, 0, none⟩ = some (.int .i64 n1) := hky.cell 0
    have r1 : y.cell? ⟨rb, 1, none⟩ = some (.int .i64 n2) := hky.cell 1
    have r2 : y.cell? ⟨rb, 2, none⟩ = some (.int .i64 n3) := hky.cell 2
    have r3 : y.cell? ⟨rb, 3, none⟩ = some (.int .i64 n4) := hky.cell 3
    have q0 : w7.cell? ⟨rb, 0, none⟩ = some (.int .i64 0) := HK7.out.2.2.1.cell 0
    have q1 : w7.cell? ⟨rb, 1, none⟩ = some (.int .i64 0) := HK7.out.2.2.1.cell 1
    have q2 : w7.cell? ⟨rb, 2, none⟩ = some (.int .i64 0) := HK7.out.2.2.1.cell 2
    have q3 : w7.cell? ⟨rb, 3, none⟩ = some (.int .i64 0) := HK7.out.2.2.1.cell 3
    have f0 : w7.frozen? ⟨rb, 0, none⟩ = false := HK7.out.2.2.1.frozen 0
    have f1 : w7.frozen? ⟨rb, 1, none⟩ = false := HK7.out.2.2.1.frozen 1
    have f2 : w7.frozen? ⟨rb, 2, none⟩ = false := HK7.out.2.2.1.frozen 2
    have f3 : w7.frozen? ⟨rb, 3, none⟩ = false := HK7.out.2.2.1.frozen 3
    clear hky
    go_wp2
    exact bodyPost_ret (v := .tuple #[.agg #[.int .i64 n1, .int .i64 n2, .int .i64 n3, .int .i64 n4], .int .i64 0]) (by simp [results, Tryz.results78, go_sem, r0, r1, r2, r3]) rfl ⟨by rw [HE.out]; rfl, HBY.out⟩
end Go.Proofs.YtgepbkldgnjpfaaGreatDoor

/- Ranging over a map that may be nil; an append that tells where the row lies. -/
namespace Go.Proofs.YtgepbkldgnjpfaaGreatDoor
open Go.RowKit Go.Sort Go.BigFrame Go.Maps

theorem dA_hat {κ β : Type} [DecidableEq κ] {kl : κ → Lit} {enc : β → Value} (W : KeyW kl) {m : Ass κ β} {k : κ} {c : Value} (hat : ∀ zd, (dA kl enc m).atKey (kl k) zd = .held c) : ∃ s, getA m k = some s ∧ c = enc s := by
  have h1 := hat (.held (.bool true))
  have h2 := hat (.held (.bool false))
  rw [dA_at W] at h1 h2
  unfold lkA at h1 h2
  cases hg : getA m k with
  | none =>
    rw [hg] at h1 h2
    simp only [DataW.held.injEq] at h1 h2
    rw [← h1] at h2
    cases h2
  | some s =>
    rw [hg] at h1
    simp only [DataW.held.injEq] at h1
    exact ⟨s, rfl, h1.symm⟩
/-- A range over a map that may be nil: what is still to come. -/
def RgV (K : TypeId) (v : Value) (r n : Nat) (D : DataW Value) (left : Lit → Bool) (cnt : Nat) (w : World) : Prop :=
  (v = .map none ∧ D = .map [] ∧ cnt = 0 ∧ (∀ kl, left kl = false) ∧ ∃ w0 : World, r = w0.heap.size ∧ w = w0.alloc (.mapIter none 0 #[] 0)) ∨ ∃ b, v = .map (some b) ∧ w.ranges Tryz.prog K heldV b r n D left cnt
theorem RgV.canon {K : TypeId} {v : Value} {r n : Nat} {D : DataW Value} {left : Lit → Bool} {cnt : Nat} {w : World} (h : RgV K v r n D left cnt w) (KK : Keyed Tryz.prog K) : Canon D := by
  rcases h with ⟨_, rfl, _⟩ | ⟨b, _, h⟩
  · exact canon_empty
  · exact h.owns.canon KK
/-- 'range m'. -/
theorem wpList_rangeV {κ β : Type} {kl : κ → Lit} {enc : β → Value} {m0 : Ass κ β} (w : World) {ops : Array Oper} {rest : List Oper} {o : Oper} {a : Act} {Q : Exit → Act → World → Prop} (hg : o.guard = none) (m : Operand) (t : TypeId) (hop : o.op = Op.range t m) (K E : TypeId) (KK : Keyed Tryz.prog K) (ht : Tryz.prog.underlying t = some (.map K E)) (v : Value) (n : Nat) (hm : a.eval m = v) (hv : MapV K kl enc m0 n v w)
    (hK : ∀ w' c0, RgV K v w.heap.size n (dA kl enc m0) (has (dA kl enc m0)) c0 w' → c0 ≤ n → w.grownBy w' none → wpList Tryz.prog ops Q rest (a.put o.dst (.pointer (some ⟨w.heap.size, 0, none⟩))) w') :
    wpList Tryz.prog ops Q (o :: rest) a w := by
  rcases hv with ⟨rfl, rfl⟩ | ⟨b, rfl, hv⟩
  · refine wpList_plain hg fun K' hK' => ?_
    unfold Oper.wp
    simp [execOp, hop, hm, run_range_nilMap (P := Tryz.prog) w t _ _ ht, Result.andThen]
    exact hK' _ _ (hK _ 0 (Or.inl ⟨rfl, rfl, rfl, fun _ => rfl, w, rfl, rfl⟩) (Nat.zero_le _) (World.grownBy_alloc w _ _))
  · exact wpList_range_own w hg m t hop K E KK ht heldV b n _ hm hv fun w' h1 h2 _ => hK w' _ (Or.inr ⟨b, rfl, h1⟩) hv.size_le h2
/-- The step. -/
theorem wpList_nextV {κ β : Type} [DecidableEq κ] {kl : κ → Lit} {enc : β → Value} {m0 : Ass κ β} (w : World) {ops : Array Oper} {rest : List Oper} {o : Oper} {a : Act} {Q : Exit → Act → World → Prop} (hg : o.guard = none) (it : Operand) (hop : o.op = Op.next it false) (K : TypeId) (KK : Keyed Tryz.prog K) (W : KeyW kl) (mk : κ → Value) (inv : ∀ key l, keyOf Tryz.prog K key = some l → ∃ k, key = mk k ∧ l = kl k)
    (v : Value) (r n : Nat) (left : Lit → Bool) (cnt : Nat) (hit : a.eval it = .pointer (some ⟨r, 0, none⟩)) (h : RgV K v r n (dA kl enc m0) left cnt w)
    (hDone : (∀ l, left l = false) → cnt = 0 → wpList Tryz.prog ops Q rest (a.put o.dst (.tuple #[.bool false])) w)
    (hMore : ∀ (k : κ) (x : β) (w' : World) (cnt' : Nat), keyOf Tryz.prog K (mk k) = some (kl k) → getA m0 k = some x → left (kl k) = true → (∀ zd, (dA kl enc m0).atKey (kl k) zd = .held (enc x)) → RgV K v r n (dA kl enc m0) (fun z => left z && !z.sameKey (kl k)) cnt' w' → cnt' < cnt → w.grownBy w' (some r) → (Instr.entry (.pointer (some ⟨r, 0, none⟩))).run Tryz.prog w' = .ok (.tuple #[mk k, enc x]) w' → wpList Tryz.prog ops Q rest (a.put o.dst (.tuple #[.bool true, mk k, enc x])) w') :
    wpList Tryz.prog ops Q (o :: rest) a w := by
  rcases h with ⟨rfl, hD, hc, hl, w0, rfl, rfl⟩ | ⟨b, rfl, h⟩
  · refine wpList_plain hg fun K' hK' => ?_
    unfold Oper.wp
    simp [execOp, hop, hit, run_next_nilMap w0 _ 0 0 #[], Result.andThen]
    exact hK' _ _ (hDone hl hc)
  · refine wpList_next_ranges w hg it hop K KK heldV id id (fun key _ _ => ⟨key, rfl⟩) (fun v _ _ => ⟨v, rfl⟩) b r n _ left cnt hit h (fun h1 h2 => hDone h2 h1) ?_
    intro x c l y w1 cnt1 hkey hlx hv hat hrg hlt hgr hsz hen
    obtain rfl : (DataW.held c, []) = y := Option.some.inj hv
    obtain ⟨k, rfl, rfl⟩ := inv _ _ hkey
    obtain ⟨s, hs, rfl⟩ := dA_hat W hat
    exact hMore k s w1 cnt1 hkey hs hlx hat (Or.inr ⟨b, rfl, hrg⟩) hlt hgr hen
theorem RgV.kept {K : TypeId} {v : Value} {r n : Nat} {D : DataW Value} {left : Lit → Bool} {cnt : Nat} {w w' : World} {row : Option Nat} (h : RgV K v r n D left cnt w) (hc : cnt ≠ 0 ∨ v ≠ .map none) (hg : w.grownBy w' row) (hb : ∀ b, row = some b → v ≠ .map (some b)) (hr : some r ≠ row) : RgV K v r n D left cnt w' := by
  rcases h with ⟨h1, _, h2, _⟩ | ⟨b, rfl, h⟩
  · rcases hc with hc | hc
    · exact absurd h2 hc
    · exact absurd h1 hc
  · exact Or.inr ⟨b, rfl, h.kept hg (fun e => hb b e.symm rfl) hr⟩
/-- An append of one element; where the row lies. -/
theorem wpList_append_rowAt {α : Type} {enc : α → List Value} {k : Nat} {P : Program} {ops : Array Oper} {rest : List Oper} {o : Oper} {a : Act} {w : World} {Q : Exit → Act → World → Prop}
    (hk : ∀ x, (enc x).length = k) (h1 : ∀ x, ∀ u ∈ enc x, u.oneCell' = true) (hgd : o.guard = none) (s x : Operand) (t : TypeId)
    (ho : o.op = .call { callee := .builtin .append, args := #[s, x], argTypes := #[t, t] })
    (base : Nat) (e : TypeId) (z : Value) (bytes : Nat) (ht : P.underlying t = some (.slice e)) (hi : (P.info? e).map (fun i => (i.zero, i.size, i.bytes)) = some (some z, k, bytes)) (hzs : z.cells.size = k) (hsz : 0 < k)
    (v : Value) (l : List α) (y : α) (hs : a.eval s = v) (hown : Own enc k e base v l w)
    (b c : Nat) (hx : a.eval x = .slice (some ⟨b, 0, none⟩) 1 c) (hnews : ∀ j u, (enc y)[j]? = some u → w.cell? ⟨b, j, none⟩ = some u)
    (hn : l.length + 1 ≤ 1000000000) (hb : bytes ≤ 1000) (hbase : base ≤ w.heap.size)
    (h : ∀ v' w', Own enc k e base v' (l ++ [y]) w' → w.grownBy w' v.ownBlock → (v'.ownBlock = v.ownBlock ∨ v'.ownBlock = some w.heap.size) → wpList P ops Q rest (a.put o.dst v') w') : wpList P ops Q (o :: rest) a w := by
  obtain ⟨i, hi1, hz, hsize, hby⟩ := info_parts hi
  refine wpList_append_own_at w hgd s x t ho base e i z k bytes ht hi1 hz hsize hby hzs hsz v l.length (rowOf enc l) hs hown ⟨b, 0, none⟩ 1 c (enc y) hx (by rw [hk]; omega) (fun j u hu => ?_) (h1 y) (by simp only [maxLen]; omega) ?_ hbase (fun v' w' h2 h3 _ h4 => h v' w' ?_ h3 h4)
  · have := hnews j u hu
    unfold Addr.add
    split
    · rename_i h0; subst h0; exact this
    · simpa using this
  · exact Nat.le_trans (Nat.mul_le_mul hn hb) (by omega)
  · unfold Own
    rw [List.length_append, rowOf_append, rowOf_one]; exact h2
end Go.Proofs.YtgepbkldgnjpfaaGreatDoor

/- social.All. -/
namespace Go.Proofs.YtgepbkldgnjpfaaGreatDoor
open Go.RowKit Go.Sort Go.BigFrame Go.Maps

/-- An item more, but none of nought. -/
def putI (l : List It) (co : ByteArray) (c : Int) : List It := if c = 0 then l else l ++ [(co, c)]
theorem putI_len (l : List It) (co : ByteArray) (c : Int) : (putI l co c).length ≤ l.length + 1 := by
  unfold putI
  split
  · omega
  · simp
set_option maxHeartbeats 1000000 in
theorem so_put (base : Nat) (v : Value) (l : List It) (co : ByteArray) (c : Int) (w : World) (hown : Own encI 2 65 base v l w) (hbase : base ≤ w.heap.size) (hl : l.length ≤ 1000000) :
    Calls Tryz.prog 77 #[v, .string co, .int .i64 c] w fun e w' => ∃ v', e = .returned v' ∧ Own encI 2 65 base v' (putI l co c) w' ∧ w.grownBy w' v.ownBlock ∧ (v'.ownBlock = v.ownBlock ∨ ∃ g, v'.ownBlock = some g ∧ w.heap.size ≤ g) := by
  by_cases h0 : c = 0
  · have HP : Hid (putI l co c = l) := Lib.hid (if_pos h0)
    subst h0
    have HO := Lib.hid hown
    clear hown
    go_enter Tryz.func77, Tryz.ntmps77
    go_wp2
    go_ret
    rw [HP.out]
    exact ⟨v, rfl, HO.out, ⟨rfl, rfl, rfl, Nat.le_refl _, fun _ _ _ => rfl⟩, Or.inl rfl⟩
  · have HP : Hid (putI l co c = l ++ [(co, c)]) := Lib.hid (if_neg h0)
    have d0 : (c == 0) = false := beq_eq_false_iff_ne.2 h0
    have HO := Lib.hid hown
    have HLE : l.length + 1 ≤ 1000000000 := by omega
    clear hown h0 hl
    go_enter Tryz.func77, Tryz.ntmps77
    go_wp2_with ((at_builtin; refine wpList_append_rowAt encI_len encI_one rfl _ _ 46 rfl base 65 _ 24 Tryz.underlying46 itemInfo rfl (by decide) _ l (co, c) rfl (HO.out.alloc _) w.heap.size 1 rfl (newsI (co, c) w) HLE (by decide) (Nat.le_trans hbase (Grows.of_alloc w _).size) ?_))
    intro v9 w9 hown9 hgr9 hloc
    have H9 := Lib.hid (And.intro hown9 (And.intro hgr9 hloc))
    clear hown9 hgr9 hloc
    go_wp2
    go_ret
    rw [HP.out]
    refine ⟨v9, rfl, H9.out.1, (World.grownBy_alloc w _ _).trans H9.out.2.1, ?_⟩
    rcases H9.out.2.2 with h | h
    · exact Or.inl h
    · exact Or.inr ⟨_, h, Nat.le_succ _⟩
/-- The sums of a code; nought where it isn't there. -/
def g4 (m : Ass ByteArray S4) (k : ByteArray) : S4 := (getA m k).getD (0, 0, 0, 0)
theorem lkS (m : Ass ByteArray S4) (k : ByteArray) : lkA aggS (.agg #[.int .i64 0, .int .i64 0, .int .i64 0, .int .i64 0]) m k = aggS (g4 m k) := by
  unfold lkA g4
  cases getA m k <;> rfl
theorem zeroSu (w : World) : (zeroValue 89).run Tryz.prog w = .ok (.agg #[.int .i64 0, .int .i64 0, .int .i64 0, .int .i64 0]) w := by kernel_rfl
theorem zeroBo (w : World) : (zeroValue 4).run Tryz.prog w = .ok (.bool false) w := by kernel_rfl
def encU (_ : Unit) : Value := .bool true
theorem lkU (m : Ass ByteArray Unit) (k : ByteArray) : lkA encU (.bool false) m k = .bool (getA m k).isSome := by
  unfold lkA
  cases getA m k <;> rfl
def allGo (was : Ass ByteArray S4) (base : Int) : Ass ByteArray Unit → Ass ByteArray S4 → List It → List It → List Sch → Ass ByteArray S4 × List It × List It × Int
  | _, out, wk, fi, [] => (out, wk, fi, 0)
  | met, out, wk, fi, x :: r =>
    if (getA met x.1).isSome = true then ([], [], [], 7)
    else if (stpS (g4 was x.1) x base).2 ≠ 0 then ([], [], [], (stpS (g4 was x.1) x base).2)
    else allGo was base ((x.1, ()) :: met) ((x.1, (stpS (g4 was x.1) x base).1) :: out) (putI wk x.1 ((stpS (g4 was x.1) x base).1.2.2.1 - (g4 was x.1).2.2.1)) (putI fi x.1 ((stpS (g4 was x.1) x base).1.2.2.2 - (g4 was x.1).2.2.2)) r
/-- The sums behind steps of all schemes, and what they add; or what is wrong. -/
def socL (was : Ass ByteArray S4) (base : Int) (l : List Sch) : Ass ByteArray S4 × List It × List It × Int := if 64 < l.length then ([], [], [], 5) else allGo was base [] was [] [] l
theorem stpS_ok {was : S4} {x : Sch} {base : Int} (h : (stpS was x base).2 = 0) : sumB was.1 was.2.1 was.2.2.1 was.2.2.2 = true ∧ sumB (stpS was x base).1.1 (stpS was x base).1.2.1 (stpS was x base).1.2.2.1 (stpS was x base).1.2.2.2 = true := by
  unfold stpS at h ⊢
  split at h
  · cases h
  split at h
  · rename_i h1; exact absurd h h1
  split at h
  · cases h
  split at h
  · cases h
  rename_i h1 h2 h3 h4
  rw [if_neg h1, if_neg h2, if_neg h3, if_neg h4]
  exact ⟨by simpa using h1, by simpa using h4⟩
abbrev MpS (m : Ass ByteArray S4) (n : Nat) (v : Value) (w : World) : Prop := MapV 9 kS aggS m n v w
abbrev OmS (m : Ass ByteArray S4) (n b : Nat) (w : World) : Prop := w.ownsMap Tryz.prog 9 heldV b n (dA kS aggS m)
abbrev OmU (m : Ass ByteArray Unit) (n b : Nat) (w : World) : Prop := w.ownsMap Tryz.prog 9 heldV b n (dA kS encU m)
theorem keyInvS (key : Value) (l : Lit) (h : keyOf Tryz.prog 9 key = some l) : ∃ k, key = .string k ∧ l = kS k := by
  obtain ⟨s, h1, h2, _⟩ := keyOfS_inv h
  exact ⟨s, h1, h2⟩
end Go.Proofs.YtgepbkldgnjpfaaGreatDoor
