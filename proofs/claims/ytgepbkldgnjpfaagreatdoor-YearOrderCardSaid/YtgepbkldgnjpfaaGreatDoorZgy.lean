/- Out of: Yk2. -/
import Derived.Test.YtgepbkldgnjpfaaGreatDoorShF
import Derived.Test.YtgepbkldgnjpfaaGreatDoorZgv
import Derived.Test.YtgepbkldgnjpfaaGreatDoorZgx
import Derived.Deep.RegionHeld3
import Derived.WalkSmall
/- year: Text's walk (gen/mkyk2.py). -/
namespace Go.Proofs.YtgepbkldgnjpfaaGreatDoor
open Go.RowKit Go.Sort Go.BigFrame Go.Maps

/-- The table of strconv, and what the checks ask. -/
structure TbP (w : World) : Prop where
  tb : Tb w
  pow : Lib.TabIs Tryz.prog w "internal/strconv.uint64pow10" .u64 Lib.pow10Tab
  size : 0 < w.heap.size
theorem powAtY : Tryz.prog.globalNamed "internal/strconv.uint64pow10" = some 0 := by kernel_rfl
theorem TbP.below {w w' : World} (h : TbP w) (hb : Below w.heap.size w w') : TbP w' := ⟨h.tb.below hb, var?_below hb powAtY h.size h.pow, Nat.lt_of_lt_of_le h.size hb.size⟩
theorem it_oa (n : Int) (h0 : -9223372036854775808 ≤ n) (h1 : n ≤ 9223372036854775807) (w : World) (ht : TbP w) : Calls Tryz.prog 26 #[.int .i64 n] w fun e w' => e = .returned (.string (txI n)) ∧ Below w.heap.size w w' :=
  (Tryz.strconv_Itoa n h0 h1 w ht.pow).mono fun _ _ ⟨h1, h2⟩ => ⟨h1, Grows.below h2⟩
/-- 'put', of words in a row that is laid just ahead. -/
theorem put_at (ob k : Nat) (s : ByteArray) (l : List ByteArray) (cs : Array Value) (hcs : cs.toList = l.map Value.string) (hk : l.length = k) (w : World) (hb : Bk ob 9 #[.string s] w) (hn : l.length ≤ 1000000) (hz : (lnG s l).size ≤ 9223372036854775807) :
    Calls Tryz.prog 25 #[.slice (some ⟨w.heap.size, 0, none⟩) k k, .pointer (some ⟨ob, 0, none⟩)] (w.alloc (.cells cs 9)) fun e w' => e = .returned (.tuple #[]) ∧ Bk ob 9 #[.string (lnG s l)] w' ∧ Kep ob ob w w' := by
  subst hk
  have hne : w.heap.size ≠ ob := by have := hb.lt; omega
  refine (yr_txt1 l (some ⟨w.heap.size, 0, none⟩) l.length ob s (w.alloc (.cells cs 9)) hn (Nat.lt_of_lt_of_le (lnG_size s l).2 hz) (bkBel hb (bAlloc _ _)) (fun W hW => ?_)).mono fun e w' ⟨h1, h2, h3⟩ => ⟨h1, h2, (Kep.of_below (bAlloc _ _)).trans h3⟩
  have hB : Bk w.heap.size 9 cs W := hW.bk (Bk.new w 9 cs) hne hne
  intro _
  refine ⟨w.heap.size, 0, rfl, hB.lt, fun i x hx j u hu => ?_⟩
  obtain ⟨rfl, rfl⟩ : j = 0 ∧ u = .string x := by
    cases j with
    | zero => exact ⟨rfl, by simpa [encW] using hu.symm⟩
    | succ j => simp [encW] at hu
  rw [hB.cell, ← Array.getElem?_toList, hcs]
  simp [hx]
theorem ne_su (a b c d : Int) (W : World) :
    (binOp .neq 89 (.agg #[.int .i64 a, .int .i64 b, .int .i64 c, .int .i64 d]) (.agg #[.int .i64 0, .int .i64 0, .int .i64 0, .int .i64 0])).run Tryz.prog W = .ok (.bool (decide ((a, b, c, d) ≠ (0, 0, 0, 0)))) W := by
  by_cases h0 : a = 0
  · by_cases h1 : b = 0
    · by_cases h2 : c = 0
      · by_cases h3 : d = 0
        · subst h0 h1 h2 h3; go_simp
        · subst h0 h1 h2
          simp only [Prod.mk.injEq, true_and, ne_eq, h3, not_false_eq_true, decide_true]
          go_simp
      · subst h0 h1
        simp only [Prod.mk.injEq, true_and, ne_eq, h2, false_and, not_false_eq_true, decide_true]
        go_simp
    · subst h0
      simp only [Prod.mk.injEq, true_and, ne_eq, h1, false_and, not_false_eq_true, decide_true]
      go_simp
  · simp only [Prod.mk.injEq, ne_eq, h0, false_and, not_false_eq_true, decide_true]
    go_simp
theorem ne_tx (a b : Int) (W : World) :
    (binOp .neq 30 (.agg #[.int .i64 a, .int .i64 b]) (.agg #[.int .i64 0, .int .i64 0])).run Tryz.prog W = .ok (.bool (decide (a ≠ 0 ∨ b ≠ 0))) W := by
  by_cases h0 : a = 0
  · by_cases h1 : b = 0
    · subst h0 h1; go_simp
    · subst h0
      simp only [ne_eq, h1, not_false_eq_true, or_true, decide_true]
      go_simp
  · simp only [ne_eq, h0, not_false_eq_true, true_or, decide_true]
    go_simp
/-- Keys that may be. -/
def KeyOk (S : Ste) : Prop := (∀ p ∈ S.be, p.1.size ≤ 32) ∧ (∀ p ∈ S.so, p.1.size ≤ 32) ∧ ∀ p ∈ S.od, p.1.size ≤ 32
theorem keyB_sz {β : Type} {m : Ass ByteArray β} (h : ∀ p ∈ m, p.1.size ≤ 32) : ∀ x ∈ keyB m, x.size ≤ 32 := by
  intro x hx
  obtain ⟨y, hy, rfl⟩ := List.mem_map.1 hx
  have h1 := (List.mergeSort_perm (ndL (m.map fun p => p.1.data.toList)) leB).mem_iff.1 hy
  obtain ⟨p, hp, rfl⟩ := List.mem_map.1 ((ndL_mem _).1 h1)
  have := h p hp
  show p.1.data.toList.toArray.size ≤ 32
  simpa using this
/-- What Text's own blocks hold. -/
structure TxW (w1 : World) (ob : Nat) (s : ByteArray) (wr : World) : Prop where
  o : Bk ob 9 #[.string s] wr
  k : Kep ob ob w1 wr
theorem TxW.below {w1 wr wr' : World} {ob : Nat} {s : ByteArray} (h : TxW w1 ob s wr) (hb : Below wr.heap.size wr wr') : TxW w1 ob s wr' := ⟨bkBel h.o hb, h.k.trans (Kep.of_below hb)⟩
theorem TxW.put {w1 wr wr' : World} {ob : Nat} {s s' : ByteArray} (h : TxW w1 ob s wr) (hb : Bk ob 9 #[.string s'] wr') (hk : Kep ob ob wr wr') : TxW w1 ob s' wr' := ⟨hb, h.k.trans hk⟩
set_option maxHeartbeats 4000000 in
set_option maxRecDepth 100000 in
theorem yr_Text (S : Ste) (V : StA) (n : Nat) (w : World) (hS : StOk S V n w) (hn : n ≤ 1000000000) (hk : KeyOk S) (hz : (txM1 S).size ≤ 9223372036854775807) (hT : TbP w) :
    Calls Tryz.prog 15 #[stV S V] w fun e w' => e = .returned (.string (txM S)) ∧ Below w.heap.size w w' := by
  obtain ⟨R, hR⟩ : ∃ R, txM S = R := ⟨_, rfl⟩
  rw [hR]
  obtain ⟨vb, vs, vo⟩ := V
  obtain ⟨o1, h1⟩ := hS.be.form
  obtain ⟨o2, h2⟩ := hS.so.form
  obtain ⟨o3, h3⟩ := hS.od.form
  dsimp only at h1 h2 h3
  subst h1 h2 h3
  have HSO := Lib.hid hS
  have HT := Lib.hid hT
  have HN0 := Lib.hid hn
  have HR := Lib.hid hR
  have HKO := Lib.hid hk
  have HZ := Lib.hid hz
  have HBD := Lib.hid hS.bd
  clear hS hT hn hR hk hz
  obtain ⟨sb, hsb⟩ : ∃ x, w.heap.size = x := ⟨_, rfl⟩
  obtain ⟨u1, hu1⟩ : ∃ x, w.alloc (.cells #[.int .i64 S.y, .int .i64 S.i, .int .i64 S.o, .map o1, .map o2, .int .i64 S.tb, .int .i64 S.tt, .map o3] 33) = x := ⟨_, rfl⟩
  have g1 : Below w.heap.size w u1 := by rw [← hu1]; exact bAlloc _ _
  have hks : Bk sb 33 #[.int .i64 S.y, .int .i64 S.i, .int .i64 S.o, .map o1, .map o2, .int .i64 S.tb, .int .i64 S.tt, .map o3] u1 := by rw [← hu1, ← hsb]; exact Bk.new _ _ _
  have HKS := Lib.hid hks
  have HBU := Lib.hid g1
  have HWF : Hid (w.alloc (.cells #[.int .i64 S.y, .int .i64 S.i, .int .i64 S.o, .map o1, .map o2, .int .i64 S.tb, .int .i64 S.tt, .map o3] 33) = u1 ∧ w.heap.size = sb) := Lib.hid ⟨hu1, hsb⟩
  have e0 : u1.cell? ⟨sb, 0, none⟩ = some (.int .i64 S.y) := Bk.cell hks 0
  have e1 : u1.cell? ⟨sb, 1, none⟩ = some (.int .i64 S.i) := Bk.cell hks 1
  have e2 : u1.cell? ⟨sb, 2, none⟩ = some (.int .i64 S.o) := Bk.cell hks 2
  have e3 : u1.cell? ⟨sb, 3, none⟩ = some (.map o1) := Bk.cell hks 3
  have e4 : u1.cell? ⟨sb, 4, none⟩ = some (.map o2) := Bk.cell hks 4
  have e5 : u1.cell? ⟨sb, 5, none⟩ = some (.int .i64 S.tb) := Bk.cell hks 5
  have e6 : u1.cell? ⟨sb, 6, none⟩ = some (.int .i64 S.tt) := Bk.cell hks 6
  have e7 : u1.cell? ⟨sb, 7, none⟩ = some (.map o3) := Bk.cell hks 7
  clear g1 hu1 hsb hks
  show Calls _ _ #[.agg #[.int .i64 S.y, .int .i64 S.i, .int .i64 S.o, .map o1, .map o2, .int .i64 S.tb, .int .i64 S.tt, .map o3]] w _
  go_enter Tryz.func15, Tryz.ntmps15
  go_upto_region 1 with fail
  rw [HWF.out.1, HWF.out.2]
  by_cases hi : S.i = 0
  · have d1 : (S.i == 0) = true := by simpa using hi
    have hR : R = ByteArray.empty := by rw [← HR.out]; exact if_pos hi
    subst hR
    clear hi
    go_wp2
    go_ret
    exact ⟨rfl, HBU.out⟩
  have d1 : (S.i == 0) = false := by simpa using hi
  have HR4 : Hid (txB wOrd S.od (tx3 S) (keyB S.od) = R) := Lib.hid (by rw [← HR.out]; exact (if_neg hi).symm)
  clear hi HR
  obtain ⟨T0, hT0⟩ : ∃ x, tx0 S = x := ⟨_, rfl⟩
  obtain ⟨T1, hT1⟩ : ∃ x, tx1 S = x := ⟨_, rfl⟩
  obtain ⟨T2, hT2⟩ : ∃ x, tx2 S = x := ⟨_, rfl⟩
  obtain ⟨T3, hT3⟩ : ∃ x, tx3 S = x := ⟨_, rfl⟩
  rw [hT3] at HR4
  have HQ0 : Hid (lnG ByteArray.empty [wLas, txI S.y, txI S.i, txI S.o] = T0) := Lib.hid hT0
  have HQ1 : Hid (txB wBef S.be T0 (keyB S.be) = T1) := Lib.hid (by rw [← hT0]; exact hT1)
  have HQ2 : Hid (txS S.so T1 (keyB S.so) = T2) := Lib.hid (by rw [← hT1]; exact hT2)
  have HQ3 : Hid ((if S.tb ≠ 0 ∨ S.tt ≠ 0 then lnG T2 [taxS, txC S.tb, txC S.tt] else T2) = T3) := Lib.hid (by rw [← hT2]; exact hT3)
  have HZZ : Hid (T0.size ≤ 9223372036854775807 ∧ T1.size ≤ 9223372036854775807 ∧ T2.size ≤ 9223372036854775807 ∧ T3.size ≤ 9223372036854775807 ∧ R.size ≤ 9223372036854775807) := Lib.hid (by
    have h1 := tx_sizes S
    have h2 := HZ.out
    have h3 : txM1 S = R := by rw [← HR4.out, ← hT3]; rfl
    rw [h3] at h1 h2
    rw [hT0, hT1, hT2, hT3] at h1
    omega)
  clear hT0 hT1 hT2 hT3
  obtain ⟨ob, hob⟩ : ∃ x, u1.heap.size = x := ⟨_, rfl⟩
  obtain ⟨w1, hw1⟩ : ∃ x, u1.alloc (.cells #[.string { data := #[] }] 9) = x := ⟨_, rfl⟩
  have hb1 : Below u1.heap.size u1 w1 := by rw [← hw1]; exact bAlloc _ _
  have HO1 : Hid (Bk ob 9 #[.string ByteArray.empty] w1) := Lib.hid (by rw [← hw1, ← hob]; exact Bk.new _ _ _)
  have HK1 := Lib.hid (bkBel HKS.out hb1)
  have HB1 := Lib.hid (bTrans HBU.out hb1)
  have HNE : Hid (w.heap.size ≤ sb ∧ sb < ob ∧ ob < w1.heap.size) := Lib.hid ⟨Nat.le_of_eq HWF.out.2, by have := HKS.out.lt; omega, HO1.out.lt⟩
  have HW1 : Hid (u1.heap.size = ob ∧ u1.alloc (.cells #[.string { data := #[] }] 9) = w1) := Lib.hid ⟨hob, hw1⟩
  have HS1 := Lib.hid (HSO.out.below HB1.out)
  have HT1 := Lib.hid (HT.out.below HB1.out)
  have HTX : Hid (TxW w1 ob ByteArray.empty w1) := Lib.hid ⟨HO1.out, Kep.refl _⟩
  have HCS : Hid (∀ W, Kep ob ob w1 W → Bk sb 33 #[.int .i64 S.y, .int .i64 S.i, .int .i64 S.o, .map o1, .map o2, .int .i64 S.tb, .int .i64 S.tt, .map o3] W) := Lib.hid (fun W hW => hW.bk HK1.out (by have := HNE.out; omega) (by have := HNE.out; omega))
  clear hb1 hob hw1 HWF HKS HBU HSO HT
  go_upto_region 5 with fail
  rw [HW1.out.2, HW1.out.1]
  clear HW1 e0 e1 e2 e3 e4 e5 e6 e7
  obtain ⟨ty, hty⟩ : ∃ x, txI S.y = x := ⟨_, rfl⟩
  obtain ⟨ti, hti⟩ : ∃ x, txI S.i = x := ⟨_, rfl⟩
  obtain ⟨tq, htq⟩ : ∃ x, txI S.o = x := ⟨_, rfl⟩
  rw [hty, hti, htq] at HQ0
  have HIY : Hid (∀ W, Below w1.heap.size w1 W → Calls Tryz.prog 26 #[.int .i64 S.y] W fun e w' => e = .returned (.string ty) ∧ Below W.heap.size W w') := Lib.hid (fun W hW => by rw [← hty]; exact it_oa S.y (by have := HBD.out; omega) (by have := HBD.out; omega) W (HT1.out.below hW))
  have HII : Hid (∀ W, Below w1.heap.size w1 W → Calls Tryz.prog 26 #[.int .i64 S.i] W fun e w' => e = .returned (.string ti) ∧ Below W.heap.size W w') := Lib.hid (fun W hW => by rw [← hti]; exact it_oa S.i (by have := HBD.out; omega) (by have := HBD.out; omega) W (HT1.out.below hW))
  have HIO : Hid (∀ W, Below w1.heap.size w1 W → Calls Tryz.prog 26 #[.int .i64 S.o] W fun e w' => e = .returned (.string tq) ∧ Below W.heap.size W w') := Lib.hid (fun W hW => by rw [← htq]; exact it_oa S.o (by have := HBD.out; omega) (by have := HBD.out; omega) W (HT1.out.below hW))
  have HPU : Hid (∀ W, Below w1.heap.size w1 W → Calls Tryz.prog 25 #[.slice (some ⟨W.heap.size, 0, none⟩) 4 4, .pointer (some ⟨ob, 0, none⟩)] (W.alloc (.cells #[.string { data := #[108, 97, 115, 116] }, .string ty, .string ti, .string tq] 9)) fun e w' => e = .returned (.tuple #[]) ∧ TxW w1 ob T0 w') := Lib.hid (fun W hW => by
    have h := put_at ob 4 ByteArray.empty [wLas, ty, ti, tq] #[.string { data := #[108, 97, 115, 116] }, .string ty, .string ti, .string tq] rfl rfl W (bkBel HO1.out hW) (by simp) (by rw [HQ0.out]; exact HZZ.out.1)
    rw [HQ0.out] at h
    exact h.mono fun e w' ⟨k1, k2, k3⟩ => ⟨k1, k2, (Kep.of_below hW).trans k3⟩)
  have HKP : Hid (∀ W, Below w1.heap.size w1 W → W.cell? ⟨sb, 0, none⟩ = some (.int .i64 S.y) ∧ W.cell? ⟨sb, 1, none⟩ = some (.int .i64 S.i) ∧ W.cell? ⟨sb, 2, none⟩ = some (.int .i64 S.o)) := Lib.hid (fun W hW => ⟨(bkBel HK1.out hW).cell 0, (bkBel HK1.out hW).cell 1, (bkBel HK1.out hW).cell 2⟩)
  obtain ⟨e0, e1, e2⟩ := HKP.out w1 (Below.refl _ _)
  have HY : Hid (Below w1.heap.size w1 w1.drew) := Lib.hid (bDrew w1)
  clear hty hti htq
  go_cut [4] from 18 (fun fv wx => fv = .func (.func 25) #[] #[.pointer (some ⟨ob, 0, none⟩)] ∧ Hid (TxW w1 ob T0 wx))
  case first =>
    go_wp2_with fail
    go_region_held3 (fun W => W.cell? ⟨sb, 0, none⟩ = some (.int .i64 S.y) ∧ W.cell? ⟨sb, 1, none⟩ = some (.int .i64 S.i) ∧ W.cell? ⟨sb, 2, none⟩ = some (.int .i64 S.o)) (first | exact HKP.out _ HY.out | exact HKP.out _ (bTrans HY.out (bAlloc _ _)) | (with_reducible exact HKQ.out) | go_keep) (first
      | (go_at_call 26; (first | (with_reducible refine (HIY.out _ HY.out).mono ?_) | (with_reducible refine (HII.out _ HY.out).mono ?_) | (with_reducible refine (HIO.out _ HY.out).mono ?_)); rintro e wn ⟨rfl, hbn⟩; replace HY := Lib.hid (bTrans HY.out hbn); clear hbn)
      | (go_at_call 25; (with_reducible refine (HPU.out _ HY.out).mono ?_); rintro e wp ⟨rfl, htx⟩; have HTXP := Lib.hid htx; have HKQ : Hid (wp.cell? ⟨sb, 0, none⟩ = some (.int .i64 S.y) ∧ wp.cell? ⟨sb, 1, none⟩ = some (.int .i64 S.i) ∧ wp.cell? ⟨sb, 2, none⟩ = some (.int .i64 S.o)) := Lib.hid ⟨(HCS.out _ htx.k).cell 0, (HCS.out _ htx.k).cell 1, (HCS.out _ htx.k).cell 2⟩; clear htx))
    all_goals
      go_wp2
      go_meet
      exact ⟨rfl, HTXP⟩
  case rest =>
  rename World => wc
  obtain ⟨rfl, HTX0⟩ := hcut
  clear HTX HPU HIY HII HIO HKP e0 e1 e2 HY HQ0
  have hbs := HCS.out _ HTX0.out.k
  have e3 : wc.cell? ⟨sb, 3, none⟩ = some (.map o1) := hbs.cell 3
  have HKY := Lib.hid (keys_be S.be n o1 wc (HTX0.out.k.map HS1.out.be (mapNePb HS1.out.be HO1.out) (mapNePb HS1.out.be HO1.out)) HN0.out)
  have hol := HTX0.out.o.lt
  have HOL := Lib.hid hol
  clear hbs hol
  go_wp2_with (first
    | (go_at_call 28; refine (iter_be _ _).mono ?_; rintro e w' ⟨rfl, rfl⟩)
    | (go_at_call 27; refine HKY.out.mono ?_))
  rintro e wk ⟨v, rfl, hown, hbk⟩
  clear HKY e3
  obtain ⟨A, cap, rfl, _⟩ := own_Sl encW_len hown
  obtain ⟨K, hK⟩ : ∃ K, keyB S.be = K := ⟨_, rfl⟩
  have hkl : K.length ≤ 1000000000 := by rw [← hK]; exact Nat.le_trans (keyB_len HS1.out.be) HN0.out
  have HSK : Hid (∀ x ∈ K, x.size ≤ 32) := Lib.hid (by rw [← hK]; exact keyB_sz HKO.out.1)
  rw [hK] at hown HQ1 ⊢
  clear hK
  have HTK : Hid (TxW w1 ob T0 wk) := Lib.hid ((HTX0.out.below (bAlloc _ _)).below hbk)
  have HOWK : Hid (∀ W, Kep ob ob wk W → Sl encW 1 W W.heap.size A K) := Lib.hid (fun W hW => by
    have hlt : ob < (wc.alloc (.cells #[.map o1] 26)).heap.size := Nat.lt_of_lt_of_le HOL.out (Grows.of_alloc _ _).size
    obtain ⟨A', cap', he, h2⟩ := own_Sl encW_len (own_kep hown hW hlt hlt)
    injection he with he
    rw [he]
    exact h2)
  clear hown hbk HOL HTX0
  go_wp2_with fail
  go_loopg [35] K.length (fun kk iv wr => ∃ (j : Nat) (s : ByteArray), j + kk = K.length ∧ iv = .int .i64 j ∧ Hid (txB wBef S.be s (K.drop j) = T1) ∧ Hid (TxW w1 ob s wr) ∧ Hid (Kep ob ob wk wr))
  case atStart => exact ⟨0, T0, Nat.zero_add _, rfl, HQ1, HTK, Lib.hid (Kep.refl _)⟩
  case round =>
    obtain ⟨j, s, hj, rfl, HA, HX, HKK⟩ := hrel
    clear HTK HQ1
    by_cases hlt : j < K.length
    · obtain ⟨b, off, rfl, hB, hc⟩ := HOWK.out wr HKK.out (by intro h; simp [h] at hlt)
      obtain ⟨x, hx⟩ : ∃ x, K[j]? = some x := ⟨_, List.getElem?_eq_getElem hlt⟩
      have C0 : wr.cell? ⟨b, off + j, none⟩ = some (.string x) := by simpa using hc j _ hx 0 _ rfl
      have hdrop := drop_get hx
      have HX32 : Hid (x.size ≤ 32) := Lib.hid (HSK.out x (List.mem_of_getElem? hx))
      have hbs := HCS.out _ HX.out.k
      have e3 : wr.cell? ⟨sb, 3, none⟩ = some (.map o1) := hbs.cell 3
      have hmc := HX.out.k.map HS1.out.be (mapNePb HS1.out.be HO1.out) (mapNePb HS1.out.be HO1.out)
      obtain ⟨c, hgc⟩ : ∃ c, g0 S.be x = c := ⟨_, rfl⟩
      have HLK : Hid ((Instr.lookup 26 (.map o1) (.string x) false).run Tryz.prog wr = .ok (.int .i64 c) wr) := Lib.hid (by
        have h := hmc.look keyT kS_W Tryz.underlying26 (zeroCe wr) (keyOfS (s := x) (by have := HX32.out; simp only [maxLen]; omega))
        rw [lkC, hgc] at h
        exact h)
      have HD : Hid (txB wBef S.be (if c ≠ 0 then lnG s [wBef, x, txC c] else s) (K.drop (j + 1)) = T1) := Lib.hid (by rw [← HA.out, hdrop, ← hgc]; rfl)
      clear hx hdrop hbs hmc hgc hc HA
      by_cases h0 : c = 0
      · have d1 : (c != 0) = false := by rw [h0]; rfl
        have HD2 : Hid (txB wBef S.be s (K.drop (j + 1)) = T1) := Lib.hid (by have h := HD.out; rw [if_neg (by simpa using h0)] at h; exact h)
        clear h0 HD
        go_wp2_with (at_lookup; refine wpList_look _ rfl _ _ _ _ rfl _ _ _ rfl rfl HLK.out ?_)
        go_roundg (K.length - (j + 1))
        case measure => omega
        case rel => exact ⟨j + 1, s, by omega, by go_num, HD2, HX, HKK⟩
      · have d1 : (c != 0) = true := by simpa using h0
        obtain ⟨tc, htc⟩ : ∃ x, txC c = x := ⟨_, rfl⟩
        have HCT : Hid (∀ W, Calls Tryz.prog 29 #[.int .i64 c] W fun e w' => e = .returned (.string tc) ∧ W = w') := Lib.hid (fun W => by rw [← htc]; exact ce_Text c W)
        obtain ⟨s2, hs2⟩ : ∃ z, lnG s [wBef, x, tc] = z := ⟨_, rfl⟩
        have HD2 : Hid (txB wBef S.be s2 (K.drop (j + 1)) = T1) := Lib.hid (by have h := HD.out; rw [if_pos h0, htc, hs2] at h; exact h)
        have HPU : Hid (Calls Tryz.prog 25 #[.slice (some ⟨wr.heap.size, 0, none⟩) 3 3, .pointer (some ⟨ob, 0, none⟩)] (wr.alloc (.cells #[.string { data := #[98, 101, 102, 111, 114, 101] }, .string x, .string tc] 9)) fun e w' => e = .returned (.tuple #[]) ∧ Bk ob 9 #[.string s2] w' ∧ Kep ob ob wr w') := Lib.hid (by
          have h := put_at ob 3 s [wBef, x, tc] #[.string { data := #[98, 101, 102, 111, 114, 101] }, .string x, .string tc] rfl rfl wr HX.out.o (by simp) (by rw [hs2]; exact Nat.le_trans (txB_size _ _ _ _) (by rw [HD2.out]; exact HZZ.out.2.1))
          rw [hs2] at h
          exact h)
        clear h0 HD htc hs2
        go_wp2_with (first
          | (at_lookup; refine wpList_look _ rfl _ _ _ _ rfl _ _ _ rfl rfl HLK.out ?_)
          | (go_at_call 29; refine (HCT.out _).mono ?_; rintro e wq ⟨rfl, rfl⟩)
          | (go_at_call 25; refine HPU.out.mono ?_; rintro e wp ⟨rfl, hbp, hkp⟩))
        go_roundg (K.length - (j + 1))
        case measure => omega
        case rel => exact ⟨j + 1, s2, by omega, by go_num, HD2, Lib.hid (HX.out.put hbp hkp), Lib.hid (HKK.out.trans hkp)⟩
    · obtain rfl : j = K.length := by omega
      have HX1 : Hid (TxW w1 ob T1 wr) := Lib.hid (by
        have h := HA.out
        rw [List.drop_length] at h
        have h2 : s = T1 := h
        rw [← h2]
        exact HX.out)
      clear HX HA HKK HOWK HSK
      have hbs := HCS.out _ HX1.out.k
      have e3 : wr.cell? ⟨sb, 4, none⟩ = some (.map o2) := hbs.cell 4
      have HKY := Lib.hid (keys_so S.so n o2 wr (HX1.out.k.map HS1.out.so (mapNePb HS1.out.so HO1.out) (mapNePb HS1.out.so HO1.out)) HN0.out)
      have hol := HX1.out.o.lt
      have HOL := Lib.hid hol
      clear hbs hol
      go_wp2_with (first
        | (go_at_call 30; refine (iter_so _ _).mono ?_; rintro e w' ⟨rfl, rfl⟩)
        | (go_at_call 27; refine HKY.out.mono ?_))
      rintro e wk ⟨v, rfl, hown, hbk⟩
      clear HKY e3
      obtain ⟨A, cap, rfl, _⟩ := own_Sl encW_len hown
      obtain ⟨K, hK⟩ : ∃ K, keyB S.so = K := ⟨_, rfl⟩
      have hkl : K.length ≤ 1000000000 := by rw [← hK]; exact Nat.le_trans (keyB_len HS1.out.so) HN0.out
      have HSK : Hid (∀ x ∈ K, x.size ≤ 32) := Lib.hid (by rw [← hK]; exact keyB_sz HKO.out.2.1)
      rw [hK] at hown HQ2 ⊢
      clear hK
      have HTK : Hid (TxW w1 ob T1 wk) := Lib.hid ((HX1.out.below (bAlloc _ _)).below hbk)
      have HOWK : Hid (∀ W, Kep ob ob wk W → Sl encW 1 W W.heap.size A K) := Lib.hid (fun W hW => by
        have hlt : ob < (wr.alloc (.cells #[.map o2] 27)).heap.size := Nat.lt_of_lt_of_le HOL.out (Grows.of_alloc _ _).size
        obtain ⟨A', cap', he, h2⟩ := own_Sl encW_len (own_kep hown hW hlt hlt)
        injection he with he
        rw [he]
        exact h2)
      clear hown hbk HOL HX1
      go_wp2_with fail
      go_loopg [57] K.length (fun kk iv wr => ∃ (j : Nat) (s : ByteArray), j + kk = K.length ∧ iv = .int .i64 j ∧ Hid (txS S.so s (K.drop j) = T2) ∧ Hid (TxW w1 ob s wr) ∧ Hid (Kep ob ob wk wr))
      case atStart => exact ⟨0, T1, Nat.zero_add _, rfl, HQ2, HTK, Lib.hid (Kep.refl _)⟩
      case round =>
        obtain ⟨j, s, hj, rfl, HA, HX, HKK⟩ := hrel
        clear HTK HQ2
        by_cases hlt : j < K.length
        · obtain ⟨b, off, rfl, hB, hc⟩ := HOWK.out wr HKK.out (by intro h; simp [h] at hlt)
          obtain ⟨x, hx⟩ : ∃ x, K[j]? = some x := ⟨_, List.getElem?_eq_getElem hlt⟩
          have C0 : wr.cell? ⟨b, off + j, none⟩ = some (.string x) := by simpa using hc j _ hx 0 _ rfl
          have hdrop := drop_get hx
          have HX32 : Hid (x.size ≤ 32) := Lib.hid (HSK.out x (List.mem_of_getElem? hx))
          have hbs := HCS.out _ HX.out.k
          have e3 : wr.cell? ⟨sb, 4, none⟩ = some (.map o2) := hbs.cell 4
          have hmc := HX.out.k.map HS1.out.so (mapNePb HS1.out.so HO1.out) (mapNePb HS1.out.so HO1.out)
          obtain ⟨⟨a1, a2, a3, a4⟩, hgc⟩ : ∃ c, g4 S.so x = c := ⟨_, rfl⟩
          have HLK : Hid ((Instr.lookup 27 (.map o2) (.string x) false).run Tryz.prog wr = .ok (.agg #[.int .i64 a1, .int .i64 a2, .int .i64 a3, .int .i64 a4]) wr) := Lib.hid (by
            have h := hmc.look keyT kS_W Tryz.underlying27 (zeroSu wr) (keyOfS (s := x) (by have := HX32.out; simp only [maxLen]; omega))
            rw [lkS, hgc] at h
            exact h)
          have HD : Hid (txS S.so (if (a1, a2, a3, a4) ≠ (0, 0, 0, 0) then lnG s [wSoc, x, txC a1, txC a2, txC a3, txC a4] else s) (K.drop (j + 1)) = T2) := Lib.hid (by
            have h : txS S.so s (x :: K.drop (j + 1)) = txS S.so (if g4 S.so x ≠ (0, 0, 0, 0) then lnG s [wSoc, x, txC (g4 S.so x).1, txC (g4 S.so x).2.1, txC (g4 S.so x).2.2.1, txC (g4 S.so x).2.2.2] else s) (K.drop (j + 1)) := rfl
            rw [← HA.out, hdrop, h, hgc])
          obtain ⟨qb, hqb⟩ : ∃ z, wr.heap.size = z := ⟨_, rfl⟩
          obtain ⟨wq, hwq⟩ : ∃ z, wr.alloc (.cells #[.int .i64 a1, .int .i64 a2, .int .i64 a3, .int .i64 a4] 89) = z := ⟨_, rfl⟩
          have hbq : Below wr.heap.size wr wq := by rw [← hwq]; exact bAlloc _ _
          have HQB : Hid (Bk qb 89 #[.int .i64 a1, .int .i64 a2, .int .i64 a3, .int .i64 a4] wq) := Lib.hid (by rw [← hwq, ← hqb]; exact Bk.new _ _ _)
          have HXQ := Lib.hid (HX.out.below hbq)
          have HKQ1 := Lib.hid (HKK.out.trans (Kep.of_below hbq))
          have HWQ := Lib.hid (And.intro hqb hwq)
          have HQC : Hid (∀ W, Below wq.heap.size wq W → W.cell? ⟨qb, 0, none⟩ = some (.int .i64 a1) ∧ W.cell? ⟨qb, 1, none⟩ = some (.int .i64 a2) ∧ W.cell? ⟨qb, 2, none⟩ = some (.int .i64 a3) ∧ W.cell? ⟨qb, 3, none⟩ = some (.int .i64 a4)) := Lib.hid (fun W hW => ⟨(bkBel HQB.out hW).cell 0, (bkBel HQB.out hW).cell 1, (bkBel HQB.out hW).cell 2, (bkBel HQB.out hW).cell 3⟩)
          obtain ⟨q0, q1, q2, q3⟩ := HQC.out wq (Below.refl _ _)
          clear hx hdrop hbs hmc hgc hc HA hqb hwq hbq
          go_upto_region 17 with (at_lookup; refine wpList_look _ rfl _ _ _ _ rfl _ _ _ rfl rfl HLK.out ?_)
          rw [HWQ.out.1, HWQ.out.2]
          clear HWQ HLK C0 e3 HX HKK
          have hq := ne_su a1 a2 a3 a4
          by_cases h0 : (a1, a2, a3, a4) = ((0, 0, 0, 0) : S4)
          · have d1 : decide ((a1, a2, a3, a4) ≠ ((0, 0, 0, 0) : S4)) = false := decide_eq_false (by simpa using h0)
            have HD2 : Hid (txS S.so s (K.drop (j + 1)) = T2) := Lib.hid (by have h := HD.out; rw [if_neg (by simpa using h0)] at h; exact h)
            simp only [d1] at hq
            clear h0 HD d1
            go_wp2
            go_roundg (K.length - (j + 1))
            case measure => omega
            case rel => exact ⟨j + 1, s, by omega, by go_num, HD2, HXQ, HKQ1⟩
          · have d1 : decide ((a1, a2, a3, a4) ≠ ((0, 0, 0, 0) : S4)) = true := decide_eq_true h0
            simp only [d1] at hq
            obtain ⟨t1, ht1⟩ : ∃ x, txC a1 = x := ⟨_, rfl⟩
            obtain ⟨t2, ht2⟩ : ∃ x, txC a2 = x := ⟨_, rfl⟩
            obtain ⟨t3, ht3⟩ : ∃ x, txC a3 = x := ⟨_, rfl⟩
            obtain ⟨t4, ht4⟩ : ∃ x, txC a4 = x := ⟨_, rfl⟩
            have HC1 : Hid (∀ W, Calls Tryz.prog 29 #[.int .i64 a1] W fun e w' => e = .returned (.string t1) ∧ W = w') := Lib.hid (fun W => by rw [← ht1]; exact ce_Text a1 W)
            have HC2 : Hid (∀ W, Calls Tryz.prog 29 #[.int .i64 a2] W fun e w' => e = .returned (.string t2) ∧ W = w') := Lib.hid (fun W => by rw [← ht2]; exact ce_Text a2 W)
            have HC3 : Hid (∀ W, Calls Tryz.prog 29 #[.int .i64 a3] W fun e w' => e = .returned (.string t3) ∧ W = w') := Lib.hid (fun W => by rw [← ht3]; exact ce_Text a3 W)
            have HC4 : Hid (∀ W, Calls Tryz.prog 29 #[.int .i64 a4] W fun e w' => e = .returned (.string t4) ∧ W = w') := Lib.hid (fun W => by rw [← ht4]; exact ce_Text a4 W)
            obtain ⟨s2, hs2⟩ : ∃ z, lnG s [wSoc, x, t1, t2, t3, t4] = z := ⟨_, rfl⟩
            have HD2 : Hid (txS S.so s2 (K.drop (j + 1)) = T2) := Lib.hid (by have h := HD.out; rw [if_pos h0, ht1, ht2, ht3, ht4, hs2] at h; exact h)
            have HPU : Hid (∀ W, Below wq.heap.size wq W → Calls Tryz.prog 25 #[.slice (some ⟨W.heap.size, 0, none⟩) 6 6, .pointer (some ⟨ob, 0, none⟩)] (W.alloc (.cells #[.string { data := #[115, 111, 99, 105, 97, 108] }, .string x, .string t1, .string t2, .string t3, .string t4] 9)) fun e w' => e = .returned (.tuple #[]) ∧ Bk ob 9 #[.string s2] w' ∧ Kep ob ob wq w') := Lib.hid (fun W hW => by
              have h := put_at ob 6 s [wSoc, x, t1, t2, t3, t4] #[.string { data := #[115, 111, 99, 105, 97, 108] }, .string x, .string t1, .string t2, .string t3, .string t4] rfl rfl W (bkBel HXQ.out.o hW) (by simp) (by rw [hs2]; exact Nat.le_trans (txS_size _ _ _) (by rw [HD2.out]; exact HZZ.out.2.2.1))
              rw [hs2] at h
              exact h.mono fun e w' ⟨k1, k2, k3⟩ => ⟨k1, k2, (Kep.of_below hW).trans k3⟩)
            have HQK : Hid (∀ W, Kep ob ob wq W → W.cell? ⟨qb, 0, none⟩ = some (.int .i64 a1) ∧ W.cell? ⟨qb, 1, none⟩ = some (.int .i64 a2) ∧ W.cell? ⟨qb, 2, none⟩ = some (.int .i64 a3) ∧ W.cell? ⟨qb, 3, none⟩ = some (.int .i64 a4)) := Lib.hid (fun W hW => by
              have hne : qb ≠ ob := fun e => absurd rfl (Bk.ne_ (by rw [e] at HQB; exact HQB.out) HXQ.out.o (by decide))
              have h := hW.bk HQB.out hne hne
              exact ⟨h.cell 0, h.cell 1, h.cell 2, h.cell 3⟩)
            have HY : Hid (Below wq.heap.size wq wq.drew) := Lib.hid (bDrew wq)
            have HPD : Hid (Calls Tryz.prog 25 #[.slice (some ⟨wq.heap.size, 0, none⟩) 6 6, .pointer (some ⟨ob, 0, none⟩)] (wq.alloc (.cells #[.string { data := #[115, 111, 99, 105, 97, 108] }, .string x, .string t1, .string t2, .string t3, .string t4] 9)).drew fun e w' => e = .returned (.tuple #[]) ∧ Bk ob 9 #[.string s2] w' ∧ Kep ob ob wq w') := Lib.hid (HPU.out _ HY.out)
            clear HPU
            clear h0 HD d1 ht1 ht2 ht3 ht4 hs2
            go_wp2_with fail
            go_region_held3 (fun W => W.cell? ⟨qb, 0, none⟩ = some (.int .i64 a1) ∧ W.cell? ⟨qb, 1, none⟩ = some (.int .i64 a2) ∧ W.cell? ⟨qb, 2, none⟩ = some (.int .i64 a3) ∧ W.cell? ⟨qb, 3, none⟩ = some (.int .i64 a4)) (first | exact HQC.out _ HY.out | exact HQC.out _ (bTrans HY.out (bAlloc _ _)) | (with_reducible exact HKQ.out) | go_keep) (first
              | (go_at_call 29; (first | (with_reducible refine (HC1.out _).mono ?_) | (with_reducible refine (HC2.out _).mono ?_) | (with_reducible refine (HC3.out _).mono ?_) | (with_reducible refine (HC4.out _).mono ?_)); rintro e wn ⟨rfl, rfl⟩)
              | (go_at_call 25; (with_reducible refine HPD.out.mono ?_); rintro e wp ⟨rfl, hbp, hkp⟩; have HBP := Lib.hid hbp; have HKP := Lib.hid hkp; have HKQ : Hid (wp.cell? ⟨qb, 0, none⟩ = some (.int .i64 a1) ∧ wp.cell? ⟨qb, 1, none⟩ = some (.int .i64 a2) ∧ wp.cell? ⟨qb, 2, none⟩ = some (.int .i64 a3) ∧ wp.cell? ⟨qb, 3, none⟩ = some (.int .i64 a4)) := Lib.hid (HQK.out _ hkp); clear hbp hkp))
            all_goals
              go_wp2
              go_roundg (K.length - (j + 1))
              case measure => omega
              case rel => exact ⟨j + 1, s2, by omega, by go_num, HD2, Lib.hid (HXQ.out.put HBP.out HKP.out), Lib.hid (HKQ1.out.trans HKP.out)⟩
        · obtain rfl : j = K.length := by omega
          have HX1 : Hid (TxW w1 ob T2 wr) := Lib.hid (by
            have h := HA.out
            rw [List.drop_length] at h
            have h2 : s = T2 := h
            rw [← h2]
            exact HX.out)
          clear HX HA HKK HOWK HSK
          have hbs := HCS.out _ HX1.out.k
          have e5 : wr.cell? ⟨sb, 5, none⟩ = some (.int .i64 S.tb) := hbs.cell 5
          have e6 : wr.cell? ⟨sb, 6, none⟩ = some (.int .i64 S.tt) := hbs.cell 6
          obtain ⟨tq, htq⟩ : ∃ z, decide (S.tb ≠ 0 ∨ S.tt ≠ 0) = z := ⟨_, rfl⟩
          have hq := ne_tx S.tb S.tt
          rw [htq] at hq
          have HTQ := Lib.hid htq
          clear htq
          clear hbs
          go_upto_if 88 with fail
          go_cut [4] from 89 (fun fv wx => fv = .func (.func 25) #[] #[.pointer (some ⟨ob, 0, none⟩)] ∧ Hid (TxW w1 ob T3 wx))
          case first =>
            cases tq
            case true =>
              have h0 : S.tb ≠ 0 ∨ S.tt ≠ 0 := of_decide_eq_true HTQ.out
              obtain ⟨t1, ht1⟩ : ∃ x, txC S.tb = x := ⟨_, rfl⟩
              obtain ⟨t2, ht2⟩ : ∃ x, txC S.tt = x := ⟨_, rfl⟩
              have HC1 : Hid (∀ W, Calls Tryz.prog 29 #[.int .i64 S.tb] W fun e w' => e = .returned (.string t1) ∧ W = w') := Lib.hid (fun W => by rw [← ht1]; exact ce_Text S.tb W)
              have HC2 : Hid (∀ W, Calls Tryz.prog 29 #[.int .i64 S.tt] W fun e w' => e = .returned (.string t2) ∧ W = w') := Lib.hid (fun W => by rw [← ht2]; exact ce_Text S.tt W)
              have HT3 : Hid (lnG T2 [taxS, t1, t2] = T3) := Lib.hid (by rw [← HQ3.out, if_pos h0, ht1, ht2])
              have HPU : Hid (∀ W, Below wr.heap.size wr W → Calls Tryz.prog 25 #[.slice (some ⟨W.heap.size, 0, none⟩) 3 3, .pointer (some ⟨ob, 0, none⟩)] (W.alloc (.cells #[.string { data := #[116, 97, 120] }, .string t1, .string t2] 9)) fun e w' => e = .returned (.tuple #[]) ∧ TxW w1 ob T3 w') := Lib.hid (fun W hW => by
                have h := put_at ob 3 T2 [taxS, t1, t2] #[.string { data := #[116, 97, 120] }, .string t1, .string t2] rfl rfl W (bkBel HX1.out.o hW) (by simp) (by rw [HT3.out]; exact HZZ.out.2.2.2.1)
                rw [HT3.out] at h
                exact h.mono fun e w' ⟨k1, k2, k3⟩ => ⟨k1, k2, HX1.out.k.trans ((Kep.of_below hW).trans k3)⟩)
              have HQC : Hid (∀ W, Below wr.heap.size wr W → W.cell? ⟨sb, 5, none⟩ = some (.int .i64 S.tb) ∧ W.cell? ⟨sb, 6, none⟩ = some (.int .i64 S.tt)) := Lib.hid (fun W hW => by
                have h := bkBel (HCS.out _ HX1.out.k) hW
                exact ⟨h.cell 5, h.cell 6⟩)
              have HY : Hid (Below wr.heap.size wr wr.drew) := Lib.hid (bDrew wr)
              have HPD : Hid (Calls Tryz.prog 25 #[.slice (some ⟨wr.heap.size, 0, none⟩) 3 3, .pointer (some ⟨ob, 0, none⟩)] (wr.alloc (.cells #[.string { data := #[116, 97, 120] }, .string t1, .string t2] 9)).drew fun e w' => e = .returned (.tuple #[]) ∧ TxW w1 ob T3 w') := Lib.hid (HPU.out _ HY.out)
              clear HPU h0 ht1 ht2
              go_wp2_with fail
              go_region_held3 (fun W => W.cell? ⟨sb, 5, none⟩ = some (.int .i64 S.tb) ∧ W.cell? ⟨sb, 6, none⟩ = some (.int .i64 S.tt)) (first | exact HQC.out _ HY.out | exact HQC.out _ (bTrans HY.out (bAlloc _ _)) | (with_reducible exact HKQ.out) | go_keep) (first
                | (go_at_call 29; (first | (with_reducible refine (HC1.out _).mono ?_) | (with_reducible refine (HC2.out _).mono ?_)); rintro e wn ⟨rfl, rfl⟩)
                | (go_at_call 25; (with_reducible refine HPD.out.mono ?_); rintro e wp ⟨rfl, htx⟩; have HTXP := Lib.hid htx; have HKQ : Hid (wp.cell? ⟨sb, 5, none⟩ = some (.int .i64 S.tb) ∧ wp.cell? ⟨sb, 6, none⟩ = some (.int .i64 S.tt)) := Lib.hid ⟨(HCS.out _ htx.k).cell 5, (HCS.out _ htx.k).cell 6⟩; clear htx))
              all_goals
                go_wp2
                go_meet
                exact ⟨rfl, HTXP⟩
            case false =>
              have h0 : ¬ (S.tb ≠ 0 ∨ S.tt ≠ 0) := of_decide_eq_false HTQ.out
              have HT3 : Hid (T2 = T3) := Lib.hid (by rw [← HQ3.out, if_neg h0])
              clear h0
              go_wp2
              go_meet
              exact ⟨rfl, Lib.hid (by rw [← HT3.out]; exact HX1.out)⟩
          case rest =>
          rename World => wd
          obtain ⟨rfl, HTX3⟩ := hcut
          clear hq e5 e6 HX1 HQ3 HTQ
          have hbs := HCS.out _ HTX3.out.k
          have e3 : wd.cell? ⟨sb, 7, none⟩ = some (.map o3) := hbs.cell 7
          have HKY := Lib.hid (keys_od S.od n o3 wd (HTX3.out.k.map HS1.out.od (mapNePb HS1.out.od HO1.out) (mapNePb HS1.out.od HO1.out)) HN0.out)
          have hol := HTX3.out.o.lt
          have HOL := Lib.hid hol
          clear hbs hol
          go_wp2_with (first
            | (go_at_call 31; refine (iter_od _ _).mono ?_; rintro e w' ⟨rfl, rfl⟩)
            | (go_at_call 27; refine HKY.out.mono ?_))
          rintro e wk ⟨v, rfl, hown, hbk⟩
          clear HKY e3
          obtain ⟨A, cap, rfl, _⟩ := own_Sl encW_len hown
          obtain ⟨K, hK⟩ : ∃ K, keyB S.od = K := ⟨_, rfl⟩
          have hkl : K.length ≤ 1000000000 := by rw [← hK]; exact Nat.le_trans (keyB_len HS1.out.od) HN0.out
          have HSK : Hid (∀ x ∈ K, x.size ≤ 32) := Lib.hid (by rw [← hK]; exact keyB_sz HKO.out.2.2)
          rw [hK] at hown HR4 ⊢
          clear hK
          have HTK : Hid (TxW w1 ob T3 wk) := Lib.hid ((HTX3.out.below (bAlloc _ _)).below hbk)
          have HOWK : Hid (∀ W, Kep ob ob wk W → Sl encW 1 W W.heap.size A K) := Lib.hid (fun W hW => by
            have hlt : ob < (wd.alloc (.cells #[.map o3] 31)).heap.size := Nat.lt_of_lt_of_le HOL.out (Grows.of_alloc _ _).size
            obtain ⟨A', cap', he, h2⟩ := own_Sl encW_len (own_kep hown hW hlt hlt)
            injection he with he
            rw [he]
            exact h2)
          clear hown hbk HOL HTX3
          go_wp2_with fail
          go_loopg [105] K.length (fun kk iv wr => ∃ (j : Nat) (s : ByteArray), j + kk = K.length ∧ iv = .int .i64 j ∧ Hid (txB wOrd S.od s (K.drop j) = R) ∧ Hid (TxW w1 ob s wr) ∧ Hid (Kep ob ob wk wr))
          case atStart => exact ⟨0, T3, Nat.zero_add _, rfl, HR4, HTK, Lib.hid (Kep.refl _)⟩
          case round =>
            obtain ⟨j, s, hj, rfl, HA, HX, HKK⟩ := hrel
            clear HTK HR4
            by_cases hlt : j < K.length
            · obtain ⟨b, off, rfl, hB, hc⟩ := HOWK.out wr HKK.out (by intro h; simp [h] at hlt)
              obtain ⟨x, hx⟩ : ∃ x, K[j]? = some x := ⟨_, List.getElem?_eq_getElem hlt⟩
              have C0 : wr.cell? ⟨b, off + j, none⟩ = some (.string x) := by simpa using hc j _ hx 0 _ rfl
              have hdrop := drop_get hx
              have HX32 : Hid (x.size ≤ 32) := Lib.hid (HSK.out x (List.mem_of_getElem? hx))
              have hbs := HCS.out _ HX.out.k
              have e3 : wr.cell? ⟨sb, 7, none⟩ = some (.map o3) := hbs.cell 7
              have hmc := HX.out.k.map HS1.out.od (mapNePb HS1.out.od HO1.out) (mapNePb HS1.out.od HO1.out)
              obtain ⟨c, hgc⟩ : ∃ c, g0 S.od x = c := ⟨_, rfl⟩
              have HLK : Hid ((Instr.lookup 31 (.map o3) (.string x) false).run Tryz.prog wr = .ok (.int .i64 c) wr) := Lib.hid (by
                have h := hmc.look keyT kS_W Tryz.underlying31 (zeroCe wr) (keyOfS (s := x) (by have := HX32.out; simp only [maxLen]; omega))
                rw [lkC, hgc] at h
                exact h)
              have HD : Hid (txB wOrd S.od (if c ≠ 0 then lnG s [wOrd, x, txC c] else s) (K.drop (j + 1)) = R) := Lib.hid (by rw [← HA.out, hdrop, ← hgc]; rfl)
              clear hx hdrop hbs hmc hgc hc HA
              by_cases h0 : c = 0
              · have d1 : (c != 0) = false := by rw [h0]; rfl
                have HD2 : Hid (txB wOrd S.od s (K.drop (j + 1)) = R) := Lib.hid (by have h := HD.out; rw [if_neg (by simpa using h0)] at h; exact h)
                clear h0 HD
                go_wp2_with (at_lookup; refine wpList_look _ rfl _ _ _ _ rfl _ _ _ rfl rfl HLK.out ?_)
                go_roundg (K.length - (j + 1))
                case measure => omega
                case rel => exact ⟨j + 1, s, by omega, by go_num, HD2, HX, HKK⟩
              · have d1 : (c != 0) = true := by simpa using h0
                obtain ⟨tc, htc⟩ : ∃ x, txC c = x := ⟨_, rfl⟩
                have HCT : Hid (∀ W, Calls Tryz.prog 29 #[.int .i64 c] W fun e w' => e = .returned (.string tc) ∧ W = w') := Lib.hid (fun W => by rw [← htc]; exact ce_Text c W)
                obtain ⟨s2, hs2⟩ : ∃ z, lnG s [wOrd, x, tc] = z := ⟨_, rfl⟩
                have HD2 : Hid (txB wOrd S.od s2 (K.drop (j + 1)) = R) := Lib.hid (by have h := HD.out; rw [if_pos h0, htc, hs2] at h; exact h)
                have HPU : Hid (Calls Tryz.prog 25 #[.slice (some ⟨wr.heap.size, 0, none⟩) 3 3, .pointer (some ⟨ob, 0, none⟩)] (wr.alloc (.cells #[.string { data := #[111, 114, 100, 101, 114] }, .string x, .string tc] 9)) fun e w' => e = .returned (.tuple #[]) ∧ Bk ob 9 #[.string s2] w' ∧ Kep ob ob wr w') := Lib.hid (by
                  have h := put_at ob 3 s [wOrd, x, tc] #[.string { data := #[111, 114, 100, 101, 114] }, .string x, .string tc] rfl rfl wr HX.out.o (by simp) (by rw [hs2]; exact Nat.le_trans (txB_size _ _ _ _) (by rw [HD2.out]; exact HZZ.out.2.2.2.2))
                  rw [hs2] at h
                  exact h)
                clear h0 HD htc hs2
                go_wp2_with (first
                  | (at_lookup; refine wpList_look _ rfl _ _ _ _ rfl _ _ _ rfl rfl HLK.out ?_)
                  | (go_at_call 29; refine (HCT.out _).mono ?_; rintro e wq ⟨rfl, rfl⟩)
                  | (go_at_call 25; refine HPU.out.mono ?_; rintro e wp ⟨rfl, hbp, hkp⟩))
                go_roundg (K.length - (j + 1))
                case measure => omega
                case rel => exact ⟨j + 1, s2, by omega, by go_num, HD2, Lib.hid (HX.out.put hbp hkp), Lib.hid (HKK.out.trans hkp)⟩
            · obtain rfl : j = K.length := by omega
              have HX1 : Hid (TxW w1 ob R wr) := Lib.hid (by
                have h := HA.out
                rw [List.drop_length] at h
                have h2 : s = R := h
                rw [← h2]
                exact HX.out)
              clear HX HA HKK HOWK HSK
              have O0 : wr.cell? ⟨ob, 0, none⟩ = some (.string R) := HX1.out.o.cell 0
              go_wp2
              go_ret
              exact ⟨rfl, belKep HB1.out HX1.out.k (by have := HNE.out; omega)⟩
end Go.Proofs.YtgepbkldgnjpfaaGreatDoor
