/- Merged from: Pd1 Pd2. -/
import Derived.Test.YtgheloooibafcaaGreatDoorDys
import Derived.Test.YtgheloooibafcaaGreatDoorCivs
namespace Go.Proofs.YtgheloooibafcaaGreatDoor
open Go.RowKit Go.Sort Go.BigFrame

theorem Tab.below {a b : World} (h : Tab a) (k : Below a.heap.size a b) : Tab b := ⟨Nat.lt_of_lt_of_le h.1 k.size, fun i hi => (k.cell (p := ⟨_, i, none⟩) h.1).trans (h.2 i hi)⟩
/-- A span. -/
def encSp (x : Int × Int) : List Value := [.int .i64 x.1, .int .i64 x.2]
theorem encSp_len (x : Int × Int) : (encSp x).length = 2 := rfl
theorem encSp_one (x : Int × Int) : ∀ u ∈ encSp x, u.oneCell' = true := by
  intro u hu
  simp only [encSp, List.mem_cons, List.not_mem_nil, or_false] at hu
  rcases hu with rfl | rfl <;> rfl
abbrev OwnSp (B : Nat) (v : Value) (l : List (Int × Int)) (w : World) : Prop := Own encSp 2 75 B v l w
theorem spanInfo : (Tryz.prog.info? 75).map (fun i => (i.zero, i.size, i.bytes)) = some (some (.agg #[.int .i64 0, .int .i64 0]), 2, 16) := by kernel_rfl
theorem newsSp (x : Int × Int) (w : World) : ∀ j u, (encSp x)[j]? = some u → (w.alloc (.cells #[.int .i64 x.1, .int .i64 x.2] 75)).cell? ⟨w.heap.size, j, none⟩ = some u := by
  intro j u hu
  have h := Bk.new w 75 #[.int .i64 x.1, .int .i64 x.2]
  rw [h.cell]
  simpa [encSp] using hu
abbrev SlSp (w : World) (A : Option Addr) (L : List (Int × Int)) : Prop := Sl encSp 2 w w.heap.size A L
/-- The year's months. -/
def sp24 : List (Int × Int) := [(19723, 19754), (19754, 19783), (19783, 19814), (19814, 19844), (19844, 19875), (19875, 19905), (19905, 19936), (19936, 19967), (19967, 19997), (19997, 20028), (20028, 20058), (20058, 20089)]
theorem sp24_at {k : Nat} {x : Int × Int} (h : sp24[k]? = some x) : Cal.Ok 2024 ((k : Int) + 1) 1 ∧ Cal.num 2024 ((k : Int) + 1) 1 = x.1 + 25567 ∧ mdV 2024 ((k : Int) + 1) = x.2 - x.1 ∧ 19723 ≤ x.1 ∧ x.1 < x.2 ∧ x.2 ≤ 20089 ∧ sp24[k + 1]?.map (·.1) = (if k = 11 then none else some x.2) ∧ (k = 11 → x.2 = 20089) := by
  have hk : k < 12 := (List.getElem?_eq_some_iff.1 h).1
  have : k = 0 ∨ k = 1 ∨ k = 2 ∨ k = 3 ∨ k = 4 ∨ k = 5 ∨ k = 6 ∨ k = 7 ∨ k = 8 ∨ k = 9 ∨ k = 10 ∨ k = 11 := by omega
  rcases this with rfl | rfl | rfl | rfl | rfl | rfl | rfl | rfl | rfl | rfl | rfl | rfl <;>
    (have e := Option.some.inj h; subst e; exact ⟨⟨by decide, by decide, by decide, by decide, by decide, by decide⟩, by decide, by decide, by decide, by decide, by decide, by decide, by decide⟩)
theorem pd_is (d : Int) (w : World) : Calls Tryz.prog 117 #[.int .i64 d] w fun e w' => e = .returned (.bool (decide (-25567 ≤ d ∧ d < 84006))) ∧ w = w' := by
  go_enter Tryz.func117, Tryz.ntmps117
  by_cases h1 : -25567 ≤ d
  · go_wp2
    go_ret
    exact ⟨ret_b (by simp [h1]), rfl⟩
  · go_wp2
    go_ret
    exact ⟨ret_b (by simp; omega), rfl⟩
theorem pd_Check0 (w : World) : Calls Tryz.prog 116 #[.agg #[.int .i64 0, .int .i64 0, .int .i64 0]] w fun e w' => e = .returned (.int .i64 0) ∧ Below w.heap.size w w' := by
  have HB := Lib.hid (bAlloc w (.cells #[.int .i64 0, .int .i64 0, .int .i64 0] 116))
  have HI := Lib.hid (fun W => pd_is 0 W)
  go_enter Tryz.func116, Tryz.ntmps116
  go_wp2_with fail
  refine (HI.out _).mono ?_
  rintro e w1 ⟨rfl, rfl⟩
  rw [show decide ((-25567 : Int) ≤ 0 ∧ (0 : Int) < 84006) = true from rfl]
  go_wp2
  go_ret
  exact ⟨rfl, HB.out⟩
theorem pd_whole (a b : Int) (w : World) : Calls Tryz.prog 119 #[.agg #[.int .i64 a, .int .i64 b]] w fun e w' => e = .returned (.bool (decide (-25567 ≤ a ∧ b ≤ 84006))) ∧ Below w.heap.size w w' := by
  have HB := Lib.hid (bAlloc w (.cells #[.int .i64 a, .int .i64 b] 75))
  go_enter Tryz.func119, Tryz.ntmps119
  by_cases h1 : -25567 ≤ a
  · go_wp2
    go_ret
    exact ⟨ret_b (by simp [h1]), HB.out⟩
  · go_wp2
    go_ret
    exact ⟨ret_b (by simp; omega), HB.out⟩
theorem pd_first (y : Int) (w : World) (ht : Tab w) (h1 : 1900 ≤ y) (h2 : y ≤ 2199) : Calls Tryz.prog 164 #[.int .i64 y] w fun e w' => e = .returned (.int .i64 (Cal.st y - 25567)) ∧ Grows w w' := by
  have L := Lib.hid (Cal.num_jan y)
  go_enter Tryz.func164, Tryz.ntmps164
  go_wp2_with fail
  refine (civ_Of y 1 1 _ ht (Cal.ok_jan h1 h2)).mono ?_
  rintro e w1 ⟨rfl, hg⟩
  go_wp2
  go_ret
  exact ⟨ret_i (by rw [L.out]), hg⟩
theorem bkk (w : World) (c d : Array Value) (t u : TypeId) {p q : Nat} {w2 : World} (h1 : w.heap.size = p) (h2 : p + 1 = q) (hw : (w.alloc (.cells c t)).alloc (.cells d u) = w2) : Bk p t c w2 ∧ Bk q u d w2 ∧ Below w.heap.size w w2 := by
  subst hw; subst h2; subst h1
  have b1 : Bk w.heap.size t c (w.alloc (.cells c t)) := Bk.new _ _ _
  have b2 : Bk (w.heap.size + 1) u d ((w.alloc (.cells c t)).alloc (.cells d u)) := by
    have := Bk.new (w.alloc (.cells c t)) u d
    rwa [show (w.alloc (.cells c t)).heap.size = w.heap.size + 1 by simp] at this
  exact ⟨b1.grows (.of_alloc _ _), b2, bTrans (bAlloc w _) (bAlloc _ _)⟩
set_option maxRecDepth 10000 in
theorem pd_span0 (y m dd d tm : Int) (w : World) (ht : Tab w) (ho : Cal.Ok y m dd) (hd : Hid (Cal.num y m dd = d + 25567)) (hto : mdV y m = tm) (hd1 : -25567 ≤ d) (hd2 : d ≤ 84005) (hto2 : 0 ≤ tm ∧ tm ≤ 31) :
    Calls Tryz.prog 118 #[.agg #[.int .i64 0, .int .i64 0, .int .i64 0], .int .i64 d] w fun e w' => e = .returned (.agg #[.int .i64 (d - (dd - 1)), .int .i64 (d - (dd - 1) + tm)]) ∧ Below w.heap.size w w' := by
  have hdd := ho.d1
  have hdd2 := ho.d2
  have hdm := Cal.dim_bd y m
  obtain ⟨cb, hcb⟩ : ∃ x, w.heap.size = x := ⟨_, rfl⟩
  obtain ⟨rb, hrb⟩ : ∃ x, cb + 1 = x := ⟨_, rfl⟩
  obtain ⟨w2, hw2⟩ : ∃ x, (w.alloc (.cells #[.int .i64 0, .int .i64 0, .int .i64 0] 116)).alloc (.cells #[.int .i64 0, .int .i64 0] 75) = x := ⟨_, rfl⟩
  obtain ⟨k1, k2, k3⟩ := bkk w _ _ _ _ hcb hrb hw2
  have HC : Hid (Bk cb 116 #[.int .i64 0, .int .i64 0, .int .i64 0] w2) := Lib.hid k1
  have HR : Hid (Bk rb 75 #[.int .i64 0, .int .i64 0] w2) := Lib.hid k2
  have HB2 := Lib.hid k3
  have HRW : Hid (w.heap.size ≤ rb) := Lib.hid (by omega)
  have HE2 := Lib.hid (And.intro hcb (And.intro hrb hw2))
  have HTo := Lib.hid (civ_To y m dd d w2 (ht.below HB2.out) ho hd)
  have HMD : Hid (∀ W, Below w.heap.size w W → Calls Tryz.prog 154 #[.int .i64 y, .int .i64 m] W fun e w' => e = .returned (.int .i64 tm) ∧ W = w') := Lib.hid fun W hW => by
    have h := civ_MonthDays y m W (ht.below hW)
    rw [hto] at h
    exact h
  have b0 : ((0 : Int) == 0) = true := rfl
  clear ho hd ht hto k1 k2 k3 hcb hrb hw2
  go_enter Tryz.func118, Tryz.ntmps118
  go_upto_region 1 with fail
  rw [HE2.out.1, HE2.out.2.1, HE2.out.2.2]
  clear HE2
  have C0 : w2.cell? ⟨cb, 0, none⟩ = some (.int .i64 0) := HC.out.cell 0
  go_wp2_with fail
  refine HTo.out.mono ?_
  rintro e w3 ⟨rfl, hg3⟩
  have HB3 : Hid (Below w.heap.size w w3) := Lib.hid (bTrans HB2.out hg3.below)
  have HR3 : Hid (Bk rb 75 #[.int .i64 0, .int .i64 0] w3) := Lib.hid (HR.out.grows hg3)
  obtain ⟨db, hdb⟩ : ∃ x, w3.heap.size = x := ⟨_, rfl⟩
  obtain ⟨w4, hw4⟩ : ∃ x, w3.alloc (.cells #[.int .i64 y, .int .i64 m, .int .i64 dd] 191) = x := ⟨_, rfl⟩
  have HD4 : Hid (Bk db 191 #[.int .i64 y, .int .i64 m, .int .i64 dd] w4) := Lib.hid (by rw [← hw4, ← hdb]; exact Bk.new _ _ _)
  have HR4 : Hid (Bk rb 75 #[.int .i64 0, .int .i64 0] w4) := Lib.hid (by rw [← hw4]; exact HR3.out.grows (.of_alloc _ _))
  have HB4 : Hid (Below w.heap.size w w4) := Lib.hid (by rw [← hw4]; exact bTrans HB3.out (bAlloc _ _))
  have HE4 := Lib.hid (And.intro hdb hw4)
  clear hdb hw4 hg3 C0 HTo
  go_upto_region 3 with fail
  rw [HE4.out.1, HE4.out.2]
  clear HE4
  have E0 : w4.cell? ⟨db, 0, none⟩ = some (.int .i64 y) := HD4.out.cell 0
  have E1 : w4.cell? ⟨db, 1, none⟩ = some (.int .i64 m) := HD4.out.cell 1
  have E2 : w4.cell? ⟨db, 2, none⟩ = some (.int .i64 dd) := HD4.out.cell 2
  have R0 : w4.cell? ⟨rb, 0, none⟩ = some (.int .i64 0) := HR4.out.cell 0
  have R1 : w4.cell? ⟨rb, 1, none⟩ = some (.int .i64 0) := HR4.out.cell 1
  have F0 : w4.frozen? ⟨rb, 0, none⟩ = false := HR4.out.frozen 0
  have F1 : w4.frozen? ⟨rb, 1, none⟩ = false := HR4.out.frozen 1
  go_wp2_with fail
  refine (HMD.out _ HB4.out).mono ?_
  rintro e w5 ⟨rfl, rfl⟩
  have HFIN : Hid (∀ u v : Value, Below w.heap.size w ((w4.setCell ⟨rb, 0, none⟩ u).setCell ⟨rb, 1, none⟩ v) ∧ ((w4.setCell ⟨rb, 0, none⟩ u).setCell ⟨rb, 1, none⟩ v).cell? ⟨rb, 0, none⟩ = some u ∧ ((w4.setCell ⟨rb, 0, none⟩ u).setCell ⟨rb, 1, none⟩ v).cell? ⟨rb, 1, none⟩ = some v) := Lib.hid fun u v => by
    have h2 := (HR4.out.set_ 0 u).set_ 1 v
    exact ⟨(HB4.out.setCell (p := ⟨rb, 0, none⟩) HRW.out u).setCell (p := ⟨rb, 1, none⟩) HRW.out v, h2.cell 0, h2.cell 1⟩
  go_wp2
  obtain ⟨z0, z1, z2⟩ := HFIN.out (.int .i64 (d - (dd - 1))) (.int .i64 (d - (dd - 1) + tm))
  exact bodyPost_ret (v := .agg #[.int .i64 (d - (dd - 1)), .int .i64 (d - (dd - 1) + tm)]) (by simp [results, Tryz.results118, go_sem, z1, z2]) rfl ⟨rfl, z0⟩
theorem spans_bd : sp24.length = 12 := rfl
set_option maxHeartbeats 2000000 in
set_option maxRecDepth 100000 in
theorem pd_spans0 (w : World) (ht : Tab w) :
    Calls Tryz.prog 121 #[.agg #[.int .i64 0, .int .i64 0, .int .i64 0], .int .i64 2024] w fun e w' => (∃ v, e = .returned v ∧ OwnSp w.heap.size v sp24 w') ∧ Below w.heap.size w w' := by
  obtain ⟨cb, hcb⟩ : ∃ x, w.heap.size = x := ⟨_, rfl⟩
  obtain ⟨w2, hw2⟩ : ∃ x, w.alloc (.cells #[.int .i64 0, .int .i64 0, .int .i64 0] 116) = x := ⟨_, rfl⟩
  have HC : Hid (Bk cb 116 #[.int .i64 0, .int .i64 0, .int .i64 0] w2) := Lib.hid (by rw [← hw2, ← hcb]; exact Bk.new _ _ _)
  have HB2 : Hid (Below w.heap.size w w2) := Lib.hid (by rw [← hw2]; exact bAlloc _ _)
  have HE2 := Lib.hid (And.intro hcb hw2)
  have HT := Lib.hid ht
  have HF1 := Lib.hid (pd_first 2025 w2 (ht.below HB2.out) (by decide) (by decide))
  rw [show Cal.st 2025 - 25567 = 20089 by decide] at HF1
  clear hcb hw2 ht
  go_enter Tryz.func121, Tryz.ntmps121
  go_upto_region 1 with fail
  rw [HE2.out.1, HE2.out.2]
  clear HE2
  go_wp2_with fail
  refine HF1.out.mono ?_
  rintro e w3 ⟨rfl, hg3⟩
  have HB3 : Hid (Below w.heap.size w w3) := Lib.hid (bTrans HB2.out hg3.below)
  have HC3 : Hid (Bk cb 116 #[.int .i64 0, .int .i64 0, .int .i64 0] w3) := Lib.hid (HC.out.grows hg3)
  have HF2 := Lib.hid (pd_first 2024 w3 (HT.out.below HB3.out) (by decide) (by decide))
  rw [show Cal.st 2024 - 25567 = 19723 by decide] at HF2
  clear hg3
  go_wp2_with fail
  refine HF2.out.mono ?_
  rintro e w4 ⟨rfl, hg4⟩
  have HB4 : Hid (Below w.heap.size w w4) := Lib.hid (bTrans HB3.out hg4.below)
  have HC4 : Hid (Bk cb 116 #[.int .i64 0, .int .i64 0, .int .i64 0] w4) := Lib.hid (HC3.out.grows hg4)
  clear hg4 HF1 HF2
  go_wp2
  go_loopg [5, 7] 12 (fun n ov dv wr => ∃ k : Nat, k + n = 12 ∧ (∃ d : Int, dv = .int .i64 d ∧ ((sp24[k]?.map (·.1)) = some d ∨ (k = 12 ∧ d = 20089))) ∧ Hid (OwnSp w.heap.size ov (sp24.take k) wr) ∧ Hid (Bk cb 116 #[.int .i64 0, .int .i64 0, .int .i64 0] wr) ∧ Hid (Below w.heap.size w wr))
  case atStart => exact ⟨0, rfl, ⟨19723, rfl, .inl rfl⟩, Lib.hid (Own.nil _), HC4, HB4⟩
  case round =>
    obtain ⟨k, hk, ⟨d, rfl, hd⟩, HO, HCr, HB⟩ := hrel
    by_cases hlt : k < 12
    · obtain ⟨x, hx⟩ : ∃ x, sp24[k]? = some x := ⟨_, List.getElem?_eq_getElem (by rw [spans_bd]; exact hlt)⟩
      obtain ⟨hok, hnum, hmd, hx1, hx2, hx3, hnx, hlast⟩ := sp24_at hx
      obtain rfl : d = x.1 := by
        rcases hd with h | h
        · rw [hx] at h; exact (Option.some.inj h).symm
        · omega
      have HSP : Hid (∀ W, Below w.heap.size w W → Calls Tryz.prog 118 #[.agg #[.int .i64 0, .int .i64 0, .int .i64 0], .int .i64 x.1] W fun e w' => e = .returned (.agg #[.int .i64 x.1, .int .i64 x.2]) ∧ Below W.heap.size W w') := Lib.hid fun W hW => by
        have hb := Cal.dim_bd 2024 ((k : Int) + 1)
        have h := pd_span0 2024 ((k : Int) + 1) 1 x.1 (x.2 - x.1) W (HT.out.below hW) hok (Lib.hid hnum) hmd (by omega) (by omega) (by
          rw [← hmd]; unfold mdV; split <;> omega)
        rw [show x.1 - (1 - 1) = x.1 by omega, show x.1 + (x.2 - x.1) = x.2 by omega] at h
        exact h
      have HWH : Hid (∀ W, Calls Tryz.prog 119 #[.agg #[.int .i64 x.1, .int .i64 x.2]] W fun e w' => e = .returned (.bool true) ∧ Below W.heap.size W w') := Lib.hid fun W => by
        have h := pd_whole x.1 x.2 W
        rw [decide_eq_true (by omega)] at h
        exact h
      have HTK : Hid (sp24.take (k + 1) = sp24.take k ++ [x]) := Lib.hid (by rw [List.take_add_one, hx]; rfl)
      have HNX : Hid ((sp24[k + 1]?.map (·.1)) = some x.2 ∨ (k + 1 = 12 ∧ x.2 = 20089)) := Lib.hid (by
        by_cases h11 : k = 11
        · exact .inr ⟨by omega, hlast h11⟩
        · rw [if_neg h11] at hnx; exact .inl hnx)
      have HLE : (sp24.take k).length + 1 ≤ 1000000000 := by rw [List.length_take, spans_bd]; omega
      have hx4 : x.1 < 20089 := by omega
      obtain ⟨x1, x2⟩ := x
      simp only at HSP HWH HNX hx1 hx2 hx3 hx4
      have C0 : wr.cell? ⟨cb, 0, none⟩ = some (.int .i64 0) := HCr.out.cell 0
      have C1 : wr.cell? ⟨cb, 1, none⟩ = some (.int .i64 0) := HCr.out.cell 1
      have C2 : wr.cell? ⟨cb, 2, none⟩ = some (.int .i64 0) := HCr.out.cell 2
      clear hok hnum hmd hnx hlast hx hd
      simp only
      go_wp2_with fail
      refine (HSP.out _ HB.out).mono ?_
      rintro e w5 ⟨rfl, hb5⟩
      obtain ⟨sb, hsb⟩ : ∃ z, w5.heap.size = z := ⟨_, rfl⟩
      obtain ⟨w6, hw6⟩ : ∃ z, w5.alloc (.cells #[.int .i64 x1, .int .i64 x2] 75) = z := ⟨_, rfl⟩
      have HS6 : Hid (Bk sb 75 #[.int .i64 x1, .int .i64 x2] w6) := Lib.hid (by rw [← hw6, ← hsb]; exact Bk.new _ _ _)
      have hb6 : Below wr.heap.size wr w6 := by rw [← hw6]; exact bTrans hb5 (bAlloc _ _)
      have HB6 : Hid (Below w.heap.size w w6) := Lib.hid (bTrans HB.out hb6)
      have HO6 : Hid (OwnSp w.heap.size u5 (sp24.take k) w6) := Lib.hid (own_bel HO.out hb6)
      have HC6 : Hid (Bk cb 116 #[.int .i64 0, .int .i64 0, .int .i64 0] w6) := Lib.hid ((hb6.block cb HCr.out.lt).trans HCr.out)
      have HNE : Hid (some sb ≠ u5.ownBlock) := Lib.hid fun he => by
        have h1 := (HO.out.lt he.symm).2
        have h2 := hb5.size
        omega
      have HE6 := Lib.hid (And.intro hsb hw6)
      clear hsb hw6 hb5 hb6 C0 C1 C2 HCr HO HB
      go_upto_region 6 with fail
      rw [HE6.out.1, HE6.out.2]
      clear HE6
      have S0 : w6.cell? ⟨sb, 0, none⟩ = some (.int .i64 x1) := HS6.out.cell 0
      have S1 : w6.cell? ⟨sb, 1, none⟩ = some (.int .i64 x2) := HS6.out.cell 1
      go_wp2_with fail
      refine (HWH.out _).mono ?_
      rintro e w7 ⟨rfl, hb7⟩
      have HB7 : Hid (Below w.heap.size w w7) := Lib.hid (bTrans HB6.out hb7)
      have HO7 : Hid (OwnSp w.heap.size u5 (sp24.take k) w7) := Lib.hid (own_bel HO6.out hb7)
      have HC7 : Hid (Bk cb 116 #[.int .i64 0, .int .i64 0, .int .i64 0] w7) := Lib.hid ((hb7.block cb HC6.out.lt).trans HC6.out)
      have HS7 : Hid (Bk sb 75 #[.int .i64 x1, .int .i64 x2] w7) := Lib.hid ((hb7.block sb HS6.out.lt).trans HS6.out)
      have HZ : Hid (w.heap.size ≤ w7.heap.size) := Lib.hid HB7.out.size
      clear S0 S1 hb7 HO6 HC6 HS6
      have S0 : w7.cell? ⟨sb, 0, none⟩ = some (.int .i64 x1) := HS7.out.cell 0
      have S1 : w7.cell? ⟨sb, 1, none⟩ = some (.int .i64 x2) := HS7.out.cell 1
      go_wp2_with ((at_builtin; refine wpList_append_row encSp_len encSp_one rfl _ _ 148 rfl w.heap.size 75 _ 16 Tryz.underlying148 spanInfo rfl (by decide) _ (sp24.take k) (x1, x2) rfl (HO7.out.alloc _) w7.heap.size 1 rfl (newsSp (x1, x2) w7) HLE (by decide) (Nat.le_trans HZ.out (Grows.of_alloc _ _).size) ?_))
      intro v8 w8 hown8 hgr8
      have HB8 : Hid (Below w.heap.size w w8) := Lib.hid (bel_own (bTrans HB7.out (bAlloc w7 _)) (Nat.le_trans HZ.out (Grows.of_alloc _ _).size) (HO7.out.alloc _) hgr8)
      have HC8 : Hid (Bk cb 116 #[.int .i64 0, .int .i64 0, .int .i64 0] w8) := Lib.hid ((HC7.out.grows (.of_alloc _ _)).grownBy hgr8 (HO7.out.ne_ HC7.out (by decide)))
      have HS8 : Hid (w8.cell? ⟨sb, 1, none⟩ = some (.int .i64 x2)) := Lib.hid (Bk.cell ((HS7.out.grows (.of_alloc _ _)).grownBy hgr8 HNE.out) 1)
      have HO8 : Hid (OwnSp w.heap.size v8 (sp24.take (k + 1)) w8) := Lib.hid (by rw [HTK.out]; exact hown8)
      clear hown8 hgr8 S0 S1
      have S1 := HS8.out
      go_wp2
      go_roundg (12 - (k + 1))
      case measure => omega
      case rel => exact ⟨k + 1, by omega, ⟨x2, rfl, HNX.out⟩, HO8, HC8, HB8⟩
    · obtain rfl : k = 12 := by omega
      obtain rfl : d = 20089 := by
        rcases hd with h | h
        · cases (show (none : Option Int) = some d from h)
        · exact h.2
      go_wp2
      go_ret
      exact ⟨⟨_, rfl, HO.out⟩, HB.out⟩
end Go.Proofs.YtgheloooibafcaaGreatDoor

namespace Go.Proofs.YtgheloooibafcaaGreatDoor
open Go.RowKit Go.Sort Go.BigFrame

set_option maxRecDepth 10000 in
theorem pd_period0 (i : Nat) (a b : Int) (w : World) (hi : i ≤ 100) (hb : 0 ≤ b ∧ b ≤ 84000) :
    Calls Tryz.prog 122 #[.agg #[.int .i64 0, .int .i64 0, .int .i64 0], .int .i64 2024, .int .i64 i, .int .i64 12, .agg #[.int .i64 a, .int .i64 b]] w fun e w' => e = .returned (.agg #[.int .i64 2024, .int .i64 ((i : Int) + 1), .int .i64 12, .int .i64 a, .int .i64 b, .int .i64 (b - 1)]) ∧ Below w.heap.size w w' := by
  have hm : min (b - 1) (84005 : Int) = b - 1 := by omega
  go_enter Tryz.func122, Tryz.ntmps122
  go_wp2
  exact bodyPost_ret (v := .agg #[.int .i64 2024, .int .i64 ((i : Int) + 1), .int .i64 12, .int .i64 a, .int .i64 b, .int .i64 (b - 1)]) (by simp [results, Tryz.results122, go_sem]) rfl ⟨rfl, bTrans (bTrans (bAlloc w _) (bAlloc _ _)) (bAlloc _ _)⟩
theorem ok310 : Cal.Ok 2024 3 10 := ⟨by decide, by decide, by decide, by decide, by decide, by decide⟩
theorem ok331 : Cal.Ok 2024 3 31 := ⟨by decide, by decide, by decide, by decide, by decide, by decide⟩
theorem fieldDate (y m d : Int) (w : World) : (Instr.field 191 (.agg #[.int .i64 y, .int .i64 m, .int .i64 d]) 0).run Tryz.prog w = .ok (.int .i64 y) w := by
  first | (kernel_rfl; done) | (simp [Instr.field, asAgg, Tryz.underlying191, go_sem]; done)
set_option maxHeartbeats 4000000 in
set_option maxRecDepth 100000 in
theorem pd_Find0 (w : World) (ht : Tab w) :
    Calls Tryz.prog 81 #[.agg #[.int .i64 0, .int .i64 0, .int .i64 0], .int .i64 19792] w fun e w' => e = .returned (.tuple #[.agg #[.int .i64 2024, .int .i64 3, .int .i64 12, .int .i64 19783, .int .i64 19814, .int .i64 19813], .int .i64 0]) ∧ Below w.heap.size w w' := by
  obtain ⟨cb, hcb⟩ : ∃ x, w.heap.size = x := ⟨_, rfl⟩
  obtain ⟨rb, hrb⟩ : ∃ x, cb + 1 = x := ⟨_, rfl⟩
  obtain ⟨w2, hw2⟩ : ∃ x, (w.alloc (.cells #[.int .i64 0, .int .i64 0, .int .i64 0] 116)).alloc (.cells #[.int .i64 0, .int .i64 0, .int .i64 0, .int .i64 0, .int .i64 0, .int .i64 0] 112) = x := ⟨_, rfl⟩
  obtain ⟨k1, k2, k3⟩ := bkk w _ _ _ _ hcb hrb hw2
  have HM : Hid (∀ W, Below w2.heap.size w2 W → Bk cb 116 #[.int .i64 0, .int .i64 0, .int .i64 0] W ∧ Bk rb 112 #[.int .i64 0, .int .i64 0, .int .i64 0, .int .i64 0, .int .i64 0, .int .i64 0] W ∧ Below w.heap.size w W ∧ Tab W) := Lib.hid fun W hW => ⟨(hW.block cb k1.lt).trans k1, (hW.block rb k2.lt).trans k2, bTrans k3 hW, ht.below (bTrans k3 hW)⟩
  have HRW : Hid (w.heap.size ≤ rb) := Lib.hid (by omega)
  have HE2 := Lib.hid (And.intro hcb (And.intro hrb hw2))
  clear k1 k2 k3 hcb hrb hw2 ht
  go_enter Tryz.func81, Tryz.ntmps81
  go_upto_region 1 with fail
  rw [HE2.out.1, HE2.out.2.1, HE2.out.2.2]
  clear HE2
  have HB2 : Hid (Below w2.heap.size w2 w2) := Lib.hid (Below.refl _ _)
  obtain ⟨c0, c1, c2⟩ : w2.cell? ⟨cb, 0, none⟩ = some (.int .i64 0) ∧ w2.cell? ⟨cb, 1, none⟩ = some (.int .i64 0) ∧ w2.cell? ⟨cb, 2, none⟩ = some (.int .i64 0) := by have h := (HM.out _ HB2.out).1; exact ⟨h.cell 0, h.cell 1, h.cell 2⟩
  go_wp2_with fail
  refine (pd_Check0 _).mono ?_
  rintro e w3 ⟨rfl, hb3⟩
  have HB3 := Lib.hid (bTrans HB2.out hb3)
  clear hb3 c0 c1 c2
  go_wp2_with fail
  refine (pd_is 19792 _).mono ?_
  rintro e w4 ⟨rfl, rfl⟩
  rw [show decide ((-25567 : Int) ≤ 19792 ∧ (19792 : Int) < 84006) = true from rfl]
  obtain ⟨c0, c1, c2⟩ : w3.cell? ⟨cb, 0, none⟩ = some (.int .i64 0) ∧ w3.cell? ⟨cb, 1, none⟩ = some (.int .i64 0) ∧ w3.cell? ⟨cb, 2, none⟩ = some (.int .i64 0) := by have h := (HM.out _ HB3.out).1; exact ⟨h.cell 0, h.cell 1, h.cell 2⟩
  go_wp2_with fail
  refine (pd_span0 2024 3 10 19792 31 w3 (HM.out _ HB3.out).2.2.2 ok310 (Lib.hid (by decide)) (by decide) (by decide) (by decide) (by decide)).mono ?_
  rintro e w5 ⟨rfl, hb5⟩
  rw [show (19792 : Int) - (10 - 1) = 19783 by decide, show (19783 : Int) + 31 = 19814 by decide]
  obtain ⟨sb, hsb⟩ : ∃ z, w5.heap.size = z := ⟨_, rfl⟩
  obtain ⟨w6, hw6⟩ : ∃ z, w5.alloc (.cells #[.int .i64 19783, .int .i64 19814] 75) = z := ⟨_, rfl⟩
  have HS6 : Hid (Bk sb 75 #[.int .i64 19783, .int .i64 19814] w6) := Lib.hid (by rw [← hw6, ← hsb]; exact Bk.new _ _ _)
  have HB6 : Hid (Below w2.heap.size w2 w6) := Lib.hid (by rw [← hw6]; exact bTrans (bTrans HB3.out hb5) (bAlloc _ _))
  have HSK : Hid (∀ W, Below w6.heap.size w6 W → W.cell? ⟨sb, 0, none⟩ = some (.int .i64 19783) ∧ W.cell? ⟨sb, 1, none⟩ = some (.int .i64 19814)) := Lib.hid fun W hW => ⟨bCell hW (HS6.out.cell 0), bCell hW (HS6.out.cell 1)⟩
  have HE6 := Lib.hid (And.intro hsb hw6)
  clear hsb hw6 hb5 c0 c1 c2
  go_upto_region 7 with fail
  rw [HE6.out.1, HE6.out.2]
  clear HE6
  obtain ⟨s0, s1⟩ := HSK.out w6 (Below.refl _ _)
  go_wp2_with fail
  refine (pd_whole 19783 19814 _).mono ?_
  rintro e w7 ⟨rfl, hb7⟩
  rw [show decide ((-25567 : Int) ≤ 19783 ∧ (19814 : Int) ≤ 84006) = true from rfl]
  have HX7 : Hid (Below w6.heap.size w6 w7) := Lib.hid hb7
  have hfy := fieldDate 2024 3 31
  clear s0 s1 hb7
  obtain ⟨s0, s1⟩ := HSK.out w7 HX7.out
  go_wp2_with fail
  refine (civ_To 2024 3 31 19813 w7 (HM.out _ (bTrans HB6.out HX7.out)).2.2.2 ok331 (Lib.hid (by decide))).mono ?_
  rintro e w8 ⟨rfl, hg8⟩
  have HX8 : Hid (Below w6.heap.size w6 w8) := Lib.hid (bTrans HX7.out hg8.below)
  clear s0 s1 hg8
  obtain ⟨c0, c1, c2⟩ : w8.cell? ⟨cb, 0, none⟩ = some (.int .i64 0) ∧ w8.cell? ⟨cb, 1, none⟩ = some (.int .i64 0) ∧ w8.cell? ⟨cb, 2, none⟩ = some (.int .i64 0) := by have h := (HM.out _ (bTrans HB6.out HX8.out)).1; exact ⟨h.cell 0, h.cell 1, h.cell 2⟩
  go_wp2_with fail
  refine (pd_spans0 w8 (HM.out _ (bTrans HB6.out HX8.out)).2.2.2).mono ?_
  rintro e w9 ⟨⟨v, rfl, ho⟩, hb9⟩
  obtain ⟨D, cd, rfl, _, hs⟩ := own_sl encSp_len ho
  have HX9 : Hid (Below w6.heap.size w6 w9) := Lib.hid (bTrans HX8.out hb9)
  obtain ⟨g, off, rfl, _, hat⟩ := hs (by decide)
  have HAT : Hid (∀ W, Below w9.heap.size w9 W → ∀ (i : Nat) x, sp24[i]? = some x → W.cell? ⟨g, off + i * 2, none⟩ = some (.int .i64 x.1) ∧ W.cell? ⟨g, off + i * 2 + 1, none⟩ = some (.int .i64 x.2)) := Lib.hid fun W hW i x hx => ⟨bCell hW (hat i x hx 0 _ rfl), bCell hW (hat i x hx 1 _ rfl)⟩
  rw [spans_bd]
  clear c0 c1 c2 ho hs hat hb9 hfy
  go_wp2
  go_loopg [39] 2 (fun n iv wr => ∃ k : Nat, k + n = 2 ∧ iv = .int .i64 k ∧ Hid (Below w9.heap.size w9 wr))
  case atStart => exact ⟨0, rfl, rfl, Lib.hid (Below.refl _ _)⟩
  case round =>
    obtain ⟨k, hk, rfl, HB⟩ := hrel
    have HXr : Hid (Below w6.heap.size w6 wr) := Lib.hid (bTrans HX9.out HB.out)
    obtain ⟨s0, s1⟩ := HSK.out wr HXr.out
    obtain ⟨x, hx⟩ : ∃ x, sp24[k]? = some x := ⟨_, List.getElem?_eq_getElem (by rw [spans_bd]; omega)⟩
    obtain ⟨a0, a1⟩ := HAT.out wr HB.out k x hx
    have hk12 : (k : Int) < 12 := by omega
    by_cases hk2 : k = 2
    · have e : x = (19783, 19814) := by
        subst hk2
        exact (Option.some.inj hx).symm
      subst e
      have HK2 := Lib.hid hk2
      simp only at a0 a1
      obtain ⟨tb, htb⟩ : ∃ z, wr.heap.size = z := ⟨_, rfl⟩
      obtain ⟨wt, hwt⟩ : ∃ z, wr.alloc (.cells #[.int .i64 19783, .int .i64 19814] 75) = z := ⟨_, rfl⟩
      have HT0 : Hid (Bk tb 75 #[.int .i64 19783, .int .i64 19814] wt) := Lib.hid (by rw [← hwt, ← htb]; exact Bk.new _ _ _)
      have HXt : Hid (Below w6.heap.size w6 wt) := Lib.hid (by rw [← hwt]; exact bTrans HXr.out (bAlloc _ _))
      have HEt := Lib.hid (And.intro htb hwt)
      clear hx hk2 htb hwt s0 s1
      go_upto_region 14 with fail
      rw [HEt.out.1, HEt.out.2]
      clear a0 a1 HEt
      obtain ⟨s0, s1⟩ := HSK.out wt HXt.out
      have t0 : wt.cell? ⟨tb, 0, none⟩ = some (.int .i64 19783) := HT0.out.cell 0
      have t1 : wt.cell? ⟨tb, 1, none⟩ = some (.int .i64 19814) := HT0.out.cell 1
      obtain ⟨c0, c1, c2⟩ : wt.cell? ⟨cb, 0, none⟩ = some (.int .i64 0) ∧ wt.cell? ⟨cb, 1, none⟩ = some (.int .i64 0) ∧ wt.cell? ⟨cb, 2, none⟩ = some (.int .i64 0) := by have h := (HM.out _ (bTrans HB6.out HXt.out)).1; exact ⟨h.cell 0, h.cell 1, h.cell 2⟩
      go_wp2_with fail
      refine (pd_period0 k 19783 19814 _ (by omega) (by decide)).mono ?_
      rintro e wp ⟨rfl, hbp⟩
      have HK3 : Hid ((k : Int) + 1 = 3) := Lib.hid (by have := HK2.out; omega)
      rw [HK3.out, show (19814 : Int) - 1 = 19813 by decide]
      obtain ⟨_, hrp, hbw, _⟩ := HM.out _ (bTrans HB6.out (bTrans HXt.out hbp))
      have r0 : wp.cell? ⟨rb, 0, none⟩ = some (.int .i64 0) := hrp.cell 0
      have r1 : wp.cell? ⟨rb, 1, none⟩ = some (.int .i64 0) := hrp.cell 1
      have r2 : wp.cell? ⟨rb, 2, none⟩ = some (.int .i64 0) := hrp.cell 2
      have r3 : wp.cell? ⟨rb, 3, none⟩ = some (.int .i64 0) := hrp.cell 3
      have r4 : wp.cell? ⟨rb, 4, none⟩ = some (.int .i64 0) := hrp.cell 4
      have r5 : wp.cell? ⟨rb, 5, none⟩ = some (.int .i64 0) := hrp.cell 5
      have f0 : wp.frozen? ⟨rb, 0, none⟩ = false := hrp.frozen 0
      have f1 : wp.frozen? ⟨rb, 1, none⟩ = false := hrp.frozen 1
      have f2 : wp.frozen? ⟨rb, 2, none⟩ = false := hrp.frozen 2
      have f3 : wp.frozen? ⟨rb, 3, none⟩ = false := hrp.frozen 3
      have f4 : wp.frozen? ⟨rb, 4, none⟩ = false := hrp.frozen 4
      have f5 : wp.frozen? ⟨rb, 5, none⟩ = false := hrp.frozen 5
      obtain ⟨wz, hwz⟩ : ∃ z, (((((wp.setCell ⟨rb, 0, none⟩ (.int .i64 2024)).setCell ⟨rb, 1, none⟩ (.int .i64 3)).setCell ⟨rb, 2, none⟩ (.int .i64 12)).setCell ⟨rb, 3, none⟩ (.int .i64 19783)).setCell ⟨rb, 4, none⟩ (.int .i64 19814)).setCell ⟨rb, 5, none⟩ (.int .i64 19813) = z := ⟨_, rfl⟩
      have hz := (((((hrp.set_ 0 (.int .i64 2024)).set_ 1 (.int .i64 3)).set_ 2 (.int .i64 12)).set_ 3 (.int .i64 19783)).set_ 4 (.int .i64 19814)).set_ 5 (.int .i64 19813)
      have HFIN : Hid (Below w.heap.size w wz) := Lib.hid (by
        rw [← hwz]
        exact (((((hbw.setCell (p := ⟨rb, 0, none⟩) HRW.out _).setCell (p := ⟨rb, 1, none⟩) HRW.out _).setCell (p := ⟨rb, 2, none⟩) HRW.out _).setCell (p := ⟨rb, 3, none⟩) HRW.out _).setCell (p := ⟨rb, 4, none⟩) HRW.out _).setCell (p := ⟨rb, 5, none⟩) HRW.out _)
      rw [hwz] at hz
      have z0 : wz.cell? ⟨rb, 0, none⟩ = some (.int .i64 2024) := hz.cell 0
      have z1 : wz.cell? ⟨rb, 1, none⟩ = some (.int .i64 3) := hz.cell 1
      have z2 : wz.cell? ⟨rb, 2, none⟩ = some (.int .i64 12) := hz.cell 2
      have z3 : wz.cell? ⟨rb, 3, none⟩ = some (.int .i64 19783) := hz.cell 3
      have z4 : wz.cell? ⟨rb, 4, none⟩ = some (.int .i64 19814) := hz.cell 4
      have z5 : wz.cell? ⟨rb, 5, none⟩ = some (.int .i64 19813) := hz.cell 5
      clear hz hrp hbw hbp s0 s1 t0 t1 c0 c1 c2
      go_wp2
      exact bodyPost_ret (v := .tuple #[.agg #[.int .i64 2024, .int .i64 3, .int .i64 12, .int .i64 19783, .int .i64 19814, .int .i64 19813], .int .i64 0]) (by simp [results, Tryz.results81, go_sem, z0, z1, z2, z3, z4, z5]) rfl ⟨rfl, HFIN.out⟩
    · have hne : x.1 ≠ 19783 := by
        have hk3 : k = 0 ∨ k = 1 := by omega
        rcases hk3 with rfl | rfl
        · rw [← Option.some.inj hx]; decide
        · rw [← Option.some.inj hx]; decide
      obtain ⟨x1, x2⟩ := x
      simp only at a0 a1 hne
      have b1 : (x1 == 19783) = false := beq_eq_false_iff_ne.2 hne
      have HXA : Hid (∀ o, Below w9.heap.size w9 (wr.alloc o)) := Lib.hid fun o => bTrans HB.out (bAlloc wr o)
      obtain ⟨tb, htb⟩ : ∃ z, wr.heap.size = z := ⟨_, rfl⟩
      obtain ⟨wt, hwt⟩ : ∃ z, wr.alloc (.cells #[.int .i64 x1, .int .i64 x2] 75) = z := ⟨_, rfl⟩
      have HT0 : Hid (Bk tb 75 #[.int .i64 x1, .int .i64 x2] wt) := Lib.hid (by rw [← hwt, ← htb]; exact Bk.new _ _ _)
      have HXt : Hid (Below w6.heap.size w6 wt) := Lib.hid (by rw [← hwt]; exact bTrans HXr.out (bAlloc _ _))
      have HBt : Hid (Below w9.heap.size w9 wt) := Lib.hid (by rw [← hwt]; exact HXA.out _)
      have HEt := Lib.hid (And.intro htb hwt)
      clear hx htb hwt s0 s1 hne
      go_upto_region 14 with fail
      rw [HEt.out.1, HEt.out.2]
      clear a0 a1 HEt
      obtain ⟨s0, s1⟩ := HSK.out wt HXt.out
      have t0 : wt.cell? ⟨tb, 0, none⟩ = some (.int .i64 x1) := HT0.out.cell 0
      have t1 : wt.cell? ⟨tb, 1, none⟩ = some (.int .i64 x2) := HT0.out.cell 1
      go_wp2
      go_roundg (2 - (k + 1))
      case measure => omega
      case rel => exact ⟨k + 1, by omega, by go_num, HBt⟩
end Go.Proofs.YtgheloooibafcaaGreatDoor
