import Derived.Test.YtgheloooibafcaaGreatDoorDys
import Derived.Test.YtgheloooibafcaaGreatDoorSnB
/- dirty.Since: the day from which on two views tell unlike things. -/
namespace Go.Proofs.YtgheloooibafcaaGreatDoor
open Go.RowKit Go.Sort

theorem bk3 (w : World) (c d e : Array Value) (t u : TypeId) {p q r : Nat} {w2 : World} (h1 : w.heap.size = p) (h2 : p + 1 = q) (h3 : q + 1 = r) (hw : ((w.alloc (.cells c t)).alloc (.cells d t)).alloc (.cells e u) = w2) : Bk p t c w2 ∧ Bk q t d w2 ∧ Bk r u e w2 ∧ Below w.heap.size w w2 := by
  obtain ⟨w1, hw1⟩ : ∃ x, (w.alloc (.cells c t)).alloc (.cells d t) = x := ⟨_, rfl⟩
  obtain ⟨b1, b2, b3⟩ := bk2 w c d t h1 h2 hw1
  have hs : w1.heap.size = r := by rw [← hw1]; simp; omega
  rw [hw1] at hw
  subst hw
  have b4 := Bk.new w1 u e
  rw [hs] at b4
  exact ⟨b1.grows (.of_alloc _ _), b2.grows (.of_alloc _ _), b4, bTrans b3 (bAlloc _ _)⟩
theorem changed_fit {X Y : List Fa} (fX : ∀ f ∈ X, Fit f) (fY : ∀ f ∈ Y, Fit f) (hX : X.length ≤ 1000000) (hY : Y.length ≤ 1000000) : ∀ x ∈ changedL X Y, Fit x.2 := by
  intro x hx
  rcases List.mem_append.1 (mem_changed.1 hx) with h | h
  · exact (force_fit fX hX x (mem_but.1 h).1).f
  · exact (force_fit fY hY x (mem_but.1 h).1).f
theorem changed_bd (X Y : List Fa) : (changedL X Y).length ≤ X.length + Y.length := by
  rw [changedL_len]
  have h1 := bothL_len (forceL X) (forceL Y)
  have h2 := forceL_len X
  have h3 := forceL_len Y
  omega
set_option maxHeartbeats 4000000 in
set_option maxRecDepth 100000 in
theorem dy_Since (X Y : List Fa) (A B : Option Addr) (ca cb : Nat) (p : Int) (w : World) (hx : X.length ≤ 4096) (hy : Y.length ≤ 4096) (hX : SlF w A X) (hY : SlF w B Y) (fX : ∀ f ∈ X, Fit f) (fY : ∀ f ∈ Y, Fit f) :
    Calls Tryz.prog 22 #[.agg #[.slice A X.length ca], .agg #[.slice B Y.length cb], .int .u32 p] w fun e w' => e = .returned (.tuple #[.int .i64 (sinceL p (changedL X Y)).1, .bool (sinceL p (changedL X Y)).2]) ∧ Below w.heap.size w w' := by
  obtain ⟨ab, hab⟩ : ∃ x, w.heap.size = x := ⟨_, rfl⟩
  obtain ⟨bb, hbb⟩ : ∃ x, ab + 1 = x := ⟨_, rfl⟩
  obtain ⟨pb, hpb⟩ : ∃ x, bb + 1 = x := ⟨_, rfl⟩
  obtain ⟨w2, hw2⟩ : ∃ x, ((w.alloc (.cells #[.slice A X.length ca] 29)).alloc (.cells #[.slice B Y.length cb] 29)).alloc (.cells #[.int .u32 p] 23) = x := ⟨_, rfl⟩
  obtain ⟨k1, k2, k3, k4⟩ := bk3 w _ _ _ _ _ hab hbb hpb hw2
  have C0 : w2.cell? ⟨ab, 0, none⟩ = some (.slice A X.length ca) := k1.cell 0
  have C1 : w2.cell? ⟨bb, 0, none⟩ = some (.slice B Y.length cb) := k2.cell 0
  have C2 : w2.cell? ⟨pb, 0, none⟩ = some (.int .u32 p) := k3.cell 0
  have HB2 := Lib.hid k4
  have HC := Lib.hid (st_Changed X Y A B ca cb w2 hx hy (hX.below k4) (hY.below k4) fX fY (.inr sortOk))
  have HCF := Lib.hid (changed_fit fX fY (by omega) (by omega))
  have HCB := changed_bd X Y
  obtain ⟨C, hC⟩ : ∃ z, changedL X Y = z := ⟨_, rfl⟩
  unfold ChangedR at HC
  rw [hC] at HC HCF HCB
  rw [hC]
  have HSI : Hid (sinceL p C = (minL (eachL p C), !(eachL p C == []))) := Lib.hid rfl
  have HPC : Hid (∀ W, Below w2.heap.size w2 W → W.cell? ⟨pb, 0, none⟩ = some (.int .u32 p)) := Lib.hid fun W hb => bCell hb C2
  have hmf : ∀ (fn : Fn) (first cap : Array Value) (w : World), (Instr.makeFunc fn first cap).run Tryz.prog w = .ok (.func fn first cap) w := fun _ _ _ _ => rfl
  clear hX hY fX fY hC k1 k2 k3 k4
  go_enter Tryz.func22, Tryz.ntmps22
  go_wp2_with fail
  refine HC.out.mono ?_
  rintro e w3 ⟨⟨D, cd, rfl, hcd, hsd⟩, hb3⟩
  have HEA := Lib.hid (dy_each p pb C D cd w3 (by omega) hsd HCF.out (HPC.out _ hb3))
  have HB3 := Lib.hid (bTrans HB2.out hb3)
  clear hsd hb3 C0 C1 C2 hw2 hab hbb hpb HC
  go_wp2_with fail
  refine HEA.out.mono ?_
  rintro e w4 ⟨⟨v4, rfl, ho4⟩, hb4⟩
  obtain ⟨A4, c4, rfl, hc4, hs4⟩ := own_sl encD_len ho4
  have HB4 := Lib.hid (bTrans HB3.out hb4)
  have HLE := Lib.hid (dy_least (eachL p C) A4 c4 w4 (by have := eachL_len p C; omega) hs4)
  obtain ⟨mn, hmn⟩ : ∃ z, minL (eachL p C) = z := ⟨_, rfl⟩
  obtain ⟨nb, hnb⟩ : ∃ z, (!(eachL p C == [])) = z := ⟨_, rfl⟩
  rw [hmn, hnb] at HLE HSI
  clear ho4 hs4 hb4 HEA hmn hnb
  go_wp2_with fail
  refine HLE.out.mono ?_
  rintro e w5 ⟨rfl, rfl⟩
  go_wp2
  go_ret2
  exact ⟨by rw [HSI.out]; rfl, HB4.out⟩
end Go.Proofs.YtgheloooibafcaaGreatDoor
