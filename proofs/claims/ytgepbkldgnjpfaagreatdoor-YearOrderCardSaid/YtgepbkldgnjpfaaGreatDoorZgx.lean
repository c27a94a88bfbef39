/- Out of: Yj7. -/
import Derived.Test.YtgepbkldgnjpfaaGreatDoorZgw
/- year: Fold's walk (gen/mkyj7.py). -/
namespace Go.Proofs.YtgepbkldgnjpfaaGreatDoor
open Go.RowKit Go.Sort Go.BigFrame Go.Maps

/-- What a fold answers: slips, a state, what is wrong; all in memory. -/
def ResF (R : List Slp × Ste × Int) (n : Nat) (w : World) (e : Ending) (w' : World) : Prop := ∃ V2 v ls, e = .returned (.tuple #[v, stV R.2.1 V2, .int .i64 R.2.2]) ∧ ls.map Prod.fst = R.1 ∧ OwnSl w.heap.size v ls w' ∧ StOk R.2.1 V2 n w' ∧ Below w.heap.size w w'
theorem ResF.of {R : List Slp × Ste × Int} {n : Nat} {w w' : World} {e : Ending} {V2 : StA} {v : Value} {ls : List (Slp × (Option Addr × Nat))} (h1 : e = .returned (.tuple #[v, stV R.2.1 V2, .int .i64 R.2.2])) (h2 : ls.map Prod.fst = R.1) (h3 : OwnSl w.heap.size v ls w') (h4 : StOk R.2.1 V2 n w') (h5 : Below w.heap.size w w') : ResF R n w e w' := ⟨V2, v, ls, h1, h2, h3, h4, h5⟩
set_option maxHeartbeats 4000000 in
set_option maxRecDepth 100000 in
theorem yr_Fold (l : List (Mon × MoA)) (A : Option Addr) (cap : Nat) (w : World) (hl : l.length ≤ 1000000) (hs : SlMo w A l) (hT : Tb w) :
    Calls Tryz.prog 11 #[.slice A l.length cap] w fun e w' => ResF (foldM (l.map Prod.fst)) 1572864 w e w' := by
  obtain ⟨⟨sl, S2, e2⟩, hR⟩ : ∃ R, foldM (l.map Prod.fst) = R := ⟨_, rfl⟩
  rw [hR]
  obtain ⟨zb, hzb⟩ : ∃ x, w.heap.size = x := ⟨_, rfl⟩
  obtain ⟨wa, hwa⟩ : ∃ x, w.alloc (.cells #[.int .i64 0, .int .i64 0, .int .i64 0, .map none, .map none, .int .i64 0, .int .i64 0, .map none] 33) = x := ⟨_, rfl⟩
  have hba : Below w.heap.size w wa := by rw [← hwa]; exact bAlloc _ _
  have HKZ : Hid (Bk zb 33 #[.int .i64 0, .int .i64 0, .int .i64 0, .map none, .map none, .int .i64 0, .int .i64 0, .map none] wa) := Lib.hid (by rw [← hwa, ← hzb]; exact Bk.new _ _ _)
  have HBA := Lib.hid hba
  have HC : Hid (Calls Tryz.prog 20 #[.agg #[.int .i64 0, .int .i64 0, .int .i64 0, .map none, .map none, .int .i64 0, .int .i64 0, .map none], .slice A l.length cap] wa fun e w' => ∃ V2 v ls, e = .returned (.tuple #[v, stV S2 V2, .int .i64 e2]) ∧ ls.map Prod.fst = sl ∧ OwnSl wa.heap.size v ls w' ∧ StOk S2 V2 1572864 w' ∧ Below wa.heap.size wa w') := Lib.hid (by
    have h := yr_Resume Ste.none StA.none l A cap 0 wa StOk.none (by omega) hl (hs.below hba) (hT.below hba)
    unfold foldM at hR
    rw [hR] at h
    exact h)
  have HZ : Hid (w.heap.size = zb ∧ w.alloc (.cells #[.int .i64 0, .int .i64 0, .int .i64 0, .map none, .map none, .int .i64 0, .int .i64 0, .map none] 33) = wa) := Lib.hid ⟨hzb, hwa⟩
  clear hR hl hs hT hba hwa hzb
  go_enter Tryz.func11, Tryz.ntmps11
  go_upto_region 1 with fail
  rw [HZ.out.2, HZ.out.1]
  go_wp2_with fail
  refine HC.out.mono ?_
  rintro e w2 ⟨⟨vb, vs, vo⟩, v2, ls, hee, hls, hos, hst, hb2⟩
  obtain ⟨p1, h1⟩ := hst.be.form
  obtain ⟨p2, h2⟩ := hst.so.form
  obtain ⟨p3, h3⟩ := hst.od.form
  dsimp only at h1 h2 h3
  subst h1 h2 h3
  replace hee : e = .returned (.tuple #[v2, .agg #[.int .i64 S2.y, .int .i64 S2.i, .int .i64 S2.o, .map p1, .map p2, .int .i64 S2.tb, .int .i64 S2.tt, .map p3], .int .i64 e2]) := hee
  subst hee
  have hkz := bkBel HKZ.out hb2
  have hne : w.heap.size ≤ zb := Nat.le_of_eq HZ.out.1
  obtain ⟨y, hy⟩ : ∃ y, ((((((((w2.setCell ⟨zb, 0, none⟩ (.int .i64 S2.y)).setCell ⟨zb, 1, none⟩ (.int .i64 S2.i)).setCell ⟨zb, 2, none⟩ (.int .i64 S2.o)).setCell ⟨zb, 3, none⟩ (.map p1)).setCell ⟨zb, 4, none⟩ (.map p2)).setCell ⟨zb, 5, none⟩ (.int .i64 S2.tb)).setCell ⟨zb, 6, none⟩ (.int .i64 S2.tt)).setCell ⟨zb, 7, none⟩ (.map p3)) = y := ⟨_, rfl⟩
  have hky : Bk zb 33 #[.int .i64 S2.y, .int .i64 S2.i, .int .i64 S2.o, .map p1, .map p2, .int .i64 S2.tb, .int .i64 S2.tt, .map p3] y := by rw [← hy]; exact bk_set8 hkz (.int .i64 S2.y) (.int .i64 S2.i) (.int .i64 S2.o) (.map p1) (.map p2) (.int .i64 S2.tb) (.int .i64 S2.tt) (.map p3)
  have hkk : Kep zb zb w2 y := by rw [← hy]; exact kep_set8 w2 (.int .i64 S2.y) (.int .i64 S2.i) (.int .i64 S2.o) (.map p1) (.map p2) (.int .i64 S2.tb) (.int .i64 S2.tt) (.map p3)
  have HBY : Hid (Below w.heap.size w y) := Lib.hid (belKep (bTrans HBA.out hb2) hkk hne)
  have HYS : Hid (StOk S2 ⟨.map p1, .map p2, .map p3⟩ 1572864 y) := Lib.hid (hst.kep hkz hkk)
  have HOS : Hid (OwnSl w.heap.size v2 ls y) := Lib.hid ((hos.kep hkk HKZ.out.lt HKZ.out.lt).low HBA.out.size)
  have HLS := Lib.hid hls
  have r0 : y.cell? ⟨zb, 0, none⟩ = some (.int .i64 S2.y) := Bk.cell (hky) 0
  have r1 : y.cell? ⟨zb, 1, none⟩ = some (.int .i64 S2.i) := Bk.cell (hky) 1
  have r2 : y.cell? ⟨zb, 2, none⟩ = some (.int .i64 S2.o) := Bk.cell (hky) 2
  have r3 : y.cell? ⟨zb, 3, none⟩ = some (.map p1) := Bk.cell (hky) 3
  have r4 : y.cell? ⟨zb, 4, none⟩ = some (.map p2) := Bk.cell (hky) 4
  have r5 : y.cell? ⟨zb, 5, none⟩ = some (.int .i64 S2.tb) := Bk.cell (hky) 5
  have r6 : y.cell? ⟨zb, 6, none⟩ = some (.int .i64 S2.tt) := Bk.cell (hky) 6
  have r7 : y.cell? ⟨zb, 7, none⟩ = some (.map p3) := Bk.cell (hky) 7
  have q0 : w2.cell? ⟨zb, 0, none⟩ = some (.int .i64 0) := Bk.cell (hkz) 0
  have q1 : w2.cell? ⟨zb, 1, none⟩ = some (.int .i64 0) := Bk.cell (hkz) 1
  have q2 : w2.cell? ⟨zb, 2, none⟩ = some (.int .i64 0) := Bk.cell (hkz) 2
  have q3 : w2.cell? ⟨zb, 3, none⟩ = some (.map none) := Bk.cell (hkz) 3
  have q4 : w2.cell? ⟨zb, 4, none⟩ = some (.map none) := Bk.cell (hkz) 4
  have q5 : w2.cell? ⟨zb, 5, none⟩ = some (.int .i64 0) := Bk.cell (hkz) 5
  have q6 : w2.cell? ⟨zb, 6, none⟩ = some (.int .i64 0) := Bk.cell (hkz) 6
  have q7 : w2.cell? ⟨zb, 7, none⟩ = some (.map none) := Bk.cell (hkz) 7
  have f0 : w2.frozen? ⟨zb, 0, none⟩ = false := Bk.frozen (hkz) 0
  have f1 : w2.frozen? ⟨zb, 1, none⟩ = false := Bk.frozen (hkz) 1
  have f2 : w2.frozen? ⟨zb, 2, none⟩ = false := Bk.frozen (hkz) 2
  have f3 : w2.frozen? ⟨zb, 3, none⟩ = false := Bk.frozen (hkz) 3
  have f4 : w2.frozen? ⟨zb, 4, none⟩ = false := Bk.frozen (hkz) 4
  have f5 : w2.frozen? ⟨zb, 5, none⟩ = false := Bk.frozen (hkz) 5
  have f6 : w2.frozen? ⟨zb, 6, none⟩ = false := Bk.frozen (hkz) 6
  have f7 : w2.frozen? ⟨zb, 7, none⟩ = false := Bk.frozen (hkz) 7
  clear hky hkk hkz hst hos hb2 hls hne
  go_wp2
  exact bodyPost_ret (v := .tuple #[v2, .agg #[.int .i64 S2.y, .int .i64 S2.i, .int .i64 S2.o, .map p1, .map p2, .int .i64 S2.tb, .int .i64 S2.tt, .map p3], .int .i64 e2]) (by simp [results, Tryz.results11, go_sem, r0, r1, r2, r3, r4, r5, r6, r7]) rfl (ResF.of (V2 := ⟨.map p1, .map p2, .map p3⟩) rfl HLS.out HOS.out HYS.out HBY.out)
end Go.Proofs.YtgepbkldgnjpfaaGreatDoor
