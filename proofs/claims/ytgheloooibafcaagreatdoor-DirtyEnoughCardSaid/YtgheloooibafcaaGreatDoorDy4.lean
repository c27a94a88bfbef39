import Derived.Test.YtgheloooibafcaaGreatDoorDy3
import Derived.Test.YtgheloooibafcaaGreatDoorPds
/- dirty.Period at the example; the document's First and Since. -/
namespace Go.Proofs.YtgheloooibafcaaGreatDoor
open Go.RowKit Go.Sort Go.BigFrame

set_option maxRecDepth 10000 in
theorem dy_Period0 (w : World) (ht : Tab w) : Calls Tryz.prog 45 #[.agg #[.int .i64 0, .int .i64 0, .int .i64 0], .int .i64 19792] w fun e w' => e = .returned (.tuple #[.agg #[.int .i64 2024, .int .i64 3, .int .i64 12, .int .i64 19783, .int .i64 19814, .int .i64 19813], .int .i64 0]) ∧ Below w.heap.size w w' := by
  obtain ⟨cb, hcb⟩ : ∃ x, w.heap.size = x := ⟨_, rfl⟩
  obtain ⟨rb, hrb⟩ : ∃ x, cb + 1 = x := ⟨_, rfl⟩
  obtain ⟨w2, hw2⟩ : ∃ x, (w.alloc (.cells #[.int .i64 0, .int .i64 0, .int .i64 0] 116)).alloc (.cells #[.int .i64 0, .int .i64 0, .int .i64 0, .int .i64 0, .int .i64 0, .int .i64 0] 112) = x := ⟨_, rfl⟩
  obtain ⟨k1, k2, k3⟩ := bkk w _ _ _ _ hcb hrb hw2
  have HR : Hid (∀ W, Below w2.heap.size w2 W → Bk rb 112 #[.int .i64 0, .int .i64 0, .int .i64 0, .int .i64 0, .int .i64 0, .int .i64 0] W ∧ Below w.heap.size w W) := Lib.hid fun W hW => ⟨(hW.block rb k2.lt).trans k2, bTrans k3 hW⟩
  have HRW : Hid (w.heap.size ≤ rb) := Lib.hid (by omega)
  have HE2 := Lib.hid (And.intro hcb (And.intro hrb hw2))
  have HF := Lib.hid (pd_Find0 w2 (ht.below k3))
  have c0 : w2.cell? ⟨cb, 0, none⟩ = some (.int .i64 0) := k1.cell 0
  have c1 : w2.cell? ⟨cb, 1, none⟩ = some (.int .i64 0) := k1.cell 1
  have c2 : w2.cell? ⟨cb, 2, none⟩ = some (.int .i64 0) := k1.cell 2
  clear k1 k2 k3 hcb hrb hw2 ht
  go_enter Tryz.func45, Tryz.ntmps45
  go_upto_region 1 with fail
  rw [HE2.out.1, HE2.out.2.1, HE2.out.2.2]
  clear HE2
  go_wp2_with fail
  refine HF.out.mono ?_
  rintro e w3 ⟨rfl, hb3⟩
  obtain ⟨pb, hpb⟩ : ∃ z, w3.heap.size = z := ⟨_, rfl⟩
  obtain ⟨w4, hw4⟩ : ∃ z, w3.alloc (.cells #[.int .i64 2024, .int .i64 3, .int .i64 12, .int .i64 19783, .int .i64 19814, .int .i64 19813] 112) = z := ⟨_, rfl⟩
  have hp : Bk pb 112 #[.int .i64 2024, .int .i64 3, .int .i64 12, .int .i64 19783, .int .i64 19814, .int .i64 19813] w4 := by rw [← hw4, ← hpb]; exact Bk.new _ _ _
  have HP := Lib.hid hp
  have HB4 : Hid (Below w2.heap.size w2 w4) := Lib.hid (by rw [← hw4]; exact bTrans hb3 (bAlloc _ _))
  have HE4 := Lib.hid (And.intro hpb hw4)
  clear hpb hw4 hb3 hp c0 c1 c2
  go_upto_region 2 with fail
  rw [HE4.out.1, HE4.out.2]
  clear HE4
  have p0 : w4.cell? ⟨pb, 0, none⟩ = some (.int .i64 2024) := HP.out.cell 0
  have p1 : w4.cell? ⟨pb, 1, none⟩ = some (.int .i64 3) := HP.out.cell 1
  have p2 : w4.cell? ⟨pb, 2, none⟩ = some (.int .i64 12) := HP.out.cell 2
  have p3 : w4.cell? ⟨pb, 3, none⟩ = some (.int .i64 19783) := HP.out.cell 3
  have p4 : w4.cell? ⟨pb, 4, none⟩ = some (.int .i64 19814) := HP.out.cell 4
  have p5 : w4.cell? ⟨pb, 5, none⟩ = some (.int .i64 19813) := HP.out.cell 5
  obtain ⟨hrp, hbw⟩ := HR.out _ HB4.out
  have r0 : w4.cell? ⟨rb, 0, none⟩ = some (.int .i64 0) := hrp.cell 0
  have r1 : w4.cell? ⟨rb, 1, none⟩ = some (.int .i64 0) := hrp.cell 1
  have r2 : w4.cell? ⟨rb, 2, none⟩ = some (.int .i64 0) := hrp.cell 2
  have r3 : w4.cell? ⟨rb, 3, none⟩ = some (.int .i64 0) := hrp.cell 3
  have r4 : w4.cell? ⟨rb, 4, none⟩ = some (.int .i64 0) := hrp.cell 4
  have r5 : w4.cell? ⟨rb, 5, none⟩ = some (.int .i64 0) := hrp.cell 5
  have f0 : w4.frozen? ⟨rb, 0, none⟩ = false := hrp.frozen 0
  have f1 : w4.frozen? ⟨rb, 1, none⟩ = false := hrp.frozen 1
  have f2 : w4.frozen? ⟨rb, 2, none⟩ = false := hrp.frozen 2
  have f3 : w4.frozen? ⟨rb, 3, none⟩ = false := hrp.frozen 3
  have f4 : w4.frozen? ⟨rb, 4, none⟩ = false := hrp.frozen 4
  have f5 : w4.frozen? ⟨rb, 5, none⟩ = false := hrp.frozen 5
  obtain ⟨wz, hwz⟩ : ∃ z, (((((w4.setCell ⟨rb, 0, none⟩ (.int .i64 2024)).setCell ⟨rb, 1, none⟩ (.int .i64 3)).setCell ⟨rb, 2, none⟩ (.int .i64 12)).setCell ⟨rb, 3, none⟩ (.int .i64 19783)).setCell ⟨rb, 4, none⟩ (.int .i64 19814)).setCell ⟨rb, 5, none⟩ (.int .i64 19813) = z := ⟨_, rfl⟩
  have hz := (((((hrp.set_ 0 (.int .i64 2024)).set_ 1 (.int .i64 3)).set_ 2 (.int .i64 12)).set_ 3 (.int .i64 19783)).set_ 4 (.int .i64 19814)).set_ 5 (.int .i64 19813)
  have HFIN : Hid (Below w.heap.size w wz) := Lib.hid (by
    rw [← hwz]
    exact (((((hbw.setCell (p := ⟨rb, 0, none⟩) HRW.out _).setCell (p := ⟨rb, 1, none⟩) HRW.out _).setCell (p := ⟨rb, 2, none⟩) HRW.out _).setCell (p := ⟨rb, 3, none⟩) HRW.out _).setCell (p := ⟨rb, 4, none⟩) HRW.out _).setCell (p := ⟨rb, 5, none⟩) HRW.out _)
  rw [hwz] at hz
  have z0 : wz.cell? ⟨rb, 0, none⟩ = some (.int .i64 2024) := hz.cell 0
  have z1 : wz.cell? ⟨rb, 1, none⟩ = some (.int .i64 3) := hz.cell 1
  have z2 : wz.cell? ⟨rb, 2, none⟩ = some (.int .i64 12) := hz.cell 2
  have z3 : wz.cell? ⟨rb, 3, none⟩ = some (.int .i64 19783) := hz.cell 3
  have z4 : wz.cell? ⟨rb, 4, none⟩ = some (.int .i64 19814) := hz.cell 4
  have z5 : wz.cell? ⟨rb, 5, none⟩ = some (.int .i64 19813) := hz.cell 5
  clear hz hrp hbw
  go_wp2
  go_loopg [8] 0 (fun _ iv wr => iv = .int .i64 1 ∧ wr = w4)
  case atStart => exact ⟨rfl, rfl⟩
  case round =>
    obtain ⟨rfl, rfl⟩ := hrel
    go_wp2
    exact bodyPost_ret (v := .tuple #[.agg #[.int .i64 2024, .int .i64 3, .int .i64 12, .int .i64 19783, .int .i64 19814, .int .i64 19813], .int .i64 0]) (by simp [results, Tryz.results45, go_sem, z0, z1, z2, z3, z4, z5]) rfl ⟨rfl, HFIN.out⟩
end Go.Proofs.YtgheloooibafcaaGreatDoor
