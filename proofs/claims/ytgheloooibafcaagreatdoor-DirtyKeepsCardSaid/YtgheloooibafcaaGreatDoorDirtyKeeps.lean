/- The statement DirtyKeeps holds: slips that are kept are ahead of the period, those that aren't kept aren't; what is kept twice is kept once; of an earlier period fewer are kept, given what the program lays in its listed variables. -/
import Derived.Test.YtgheloooibafcaaGreatDoorRows
import Derived.Test.YtgheloooibafcaaGreatDoorCards
import Derived.Test.YtgheloooibafcaaGreatDoorTie
import Derived.Test.YtgheloooibafcaaGreatDoorLdD
import Derived.Test.YtgheloooibafcaaGreatDoorDirtyKeepsA
import Derived.Test.YtgheloooibafcaaGreatDoorDirtyKeepsB
import Derived.Test.YtgheloooibafcaaGreatDoorDirtyKeepsC
import Derived.Test.YtgheloooibafcaaGreatDoorDf2
import Derived.Test.YtgheloooibafcaaGreatDoorOps
import Derived.WalkKit
import Derived.ProofKit
import Derived.Below
import Derived.Carry
import Derived.LaidMore
import Derived.OpenShut
import Derived.Stop.Joined
import Derived.SevenTiedAt
namespace Go.Proofs.YtgheloooibafcaaGreatDoor.lawDirtyKeeps
open Go Go.ChangeShapes Go.WideShapes Go.ChangeAt Go.WideMaps Go.WideElems Go.RowKit
theorem own : ownKnob Tryz.prog.godebug = none := by kernel_rfl
theorem laidOut : laidOutB Tryz.prog = true := by kernel_rfl
set_option maxRecDepth 100000 in
theorem lifted (os : Os) (started : os.Started) (H : Type) (enc : TypeId × Value → H) :
    ReturnsInHanded {} Tryz.checked os 7 .any (fun w args => (Rows.dirtyKeepsSpec.pre enc Tryz.prog Tryz.f7 [] false w args ∧ laidMetH Tryz.prog Rows.dirtyKeepsRow.laid w) ∧ sizedMet enc Tryz.prog Tryz.f7 (OpenSpec.ofChange Rows.dirtyKeepsSpec) false w args)
      (Rows.dirtyKeepsSpec.post enc Tryz.prog Tryz.f7 false true false false) := by
  refine returns_laid_sized (C := Tryz.checked) (X := fun w _ => laidMetH Tryz.prog Rows.dirtyKeepsRow.laid w) (fun _ _ _ hh h => h.of_heap hh) own started (by kernel_rfl) Tryz.func7
    (ChangeSpec.witness_shaped (enc := enc) (C := Tryz.checked) (os := os) (X := fun w _ => laidMetH Tryz.prog Rows.dirtyKeepsRow.laid w) false (World.laidAll Tryz.prog os Rows.dirtyKeepsRow.laid) #[.slice none 0 0, .int .i64 0, .int .i64 0, .int .i64 0] 8 (World.laidAll_os _ _ _) (World.shaped_of_ZipB (by kernel_rfl) (by kernel_rfl)) (by kernel_rfl) (by kernel_rfl) (by kernel_rfl) (door_met os _)) ?_
  intro W base args ds gs before hval0 hW hL hsh hsz
  have hwt := hsz.weights hW
  have hval : ∀ (j : Nat) t v, Tryz.f7.params[j]? = some t → args[j]? = some v → Value.okWide Tryz.prog W .any base t v := hval0
  have hW' := hW
  obtain ⟨p, q, hA0, hV, rfl, hfz, hnd⟩ := hW
  have hA : DataW.TrodAll enc Tryz.prog W 0 (fun _ => true) true Tryz.f7.params.toList args.toList ds p := hA0
  rw [Tryz.params7] at hA hval
  obtain ⟨v0, vs0, d0, ds0, p0, q0, hargs, rfl, rfl, h0, r0⟩ := trodAll_cons hA
  obtain ⟨v1, vs1, d1, ds1, p1, q1, rfl, rfl, rfl, h1, r1⟩ := trodAll_cons r0
  obtain ⟨v2, vs2, d2, ds2, p2, q2, rfl, rfl, rfl, h2, r2⟩ := trodAll_cons r1
  obtain ⟨v3, vs3, d3, ds3, p3, q3, rfl, rfl, rfl, h3, r3⟩ := trodAll_cons r2
  obtain ⟨rfl, rfl, rfl⟩ := trodAll_nil r3
  obtain rfl : args = #[v0, v1, v2, v3] := by cases args; simp_all
  obtain ⟨rfl, rfl⟩ := trodVars_none hV
  have k0 := h0
  have lt0 : ∀ x ∈ p0, x.block < W.heap.size := by obtain ⟨m, hm⟩ := k0; exact DataW.trod_lt m _ _ _ hm
  have o0 := hval 0 56 v0 rfl rfl
  have k1 := h1
  have lt1 : ∀ x ∈ p1, x.block < W.heap.size := by obtain ⟨m, hm⟩ := k1; exact DataW.trod_lt m _ _ _ hm
  have o1 := hval 1 3 v1 rfl rfl
  have k2 := h2
  have lt2 : ∀ x ∈ p2, x.block < W.heap.size := by obtain ⟨m, hm⟩ := k2; exact DataW.trod_lt m _ _ _ hm
  have o2 := hval 2 3 v2 rfl rfl
  have k3 := h3
  have lt3 : ∀ x ∈ p3, x.block < W.heap.size := by obtain ⟨m, hm⟩ := k3; exact DataW.trod_lt m _ _ _ hm
  have o3 := hval 3 3 v3 rfl rfl
  obtain ⟨A, cap, Z, rfl, hl0, hs0, hroom⟩ := open_slips o0 h0
  have hr := hroom fun n hn => by
    have := List.all_eq_true.1 hwt n (DataW.weights_mem_each (j := 0) rfl rfl n hn)
    simpa using this
  obtain ⟨a1, rfl, rfl, rfl, w1⟩ := open_int Tryz.underlying3 o1 h1
  obtain ⟨a2, rfl, rfl, rfl, w2⟩ := open_int Tryz.underlying3 o2 h2
  obtain ⟨a3, rfl, rfl, rfl, w3⟩ := open_int Tryz.underlying3 o3 h3
  have hT := tb_of hL hsh
  clear hA0 hval0 hL
  refine (lw_DKeeps Z A cap a1 a2 a3 W hl0 hr hs0 hT.1 hT.2).mono fun e W' ⟨he, bel⟩ => ?_
  subst he
  exact ⟨_, rfl, _, _, _, [], _, [], hW', trodAll_mk1 (shut_bool Tryz.underlying4 _), (trodAll_cons_mk (Below.trod laidOut (by kernel_rfl) (of_decide_eq_true (by kernel_rfl)) k0 bel lt0) (trodAll_cons_mk (Below.trod laidOut (by kernel_rfl) (of_decide_eq_true (by kernel_rfl)) k1 bel lt1) (trodAll_cons_mk (Below.trod laidOut (by kernel_rfl) (of_decide_eq_true (by kernel_rfl)) k2 bel lt2) (trodAll_cons_mk (Below.trod laidOut (by kernel_rfl) (of_decide_eq_true (by kernel_rfl)) k3 bel lt3) trodAll_mk0)))), rfl, bel.frame _, fun h => by cases h⟩

theorem closed : joinedFacts Tryz.prog 7 Tryz.f7 Rows.dirtyKeepsSpec Rows.dirtyKeepsRow = true := by
  unfold joinedFacts
  rw [inPlaceF, unfollowedF, recursesF, namedF]
  kernel_rfl
theorem over : Rows.dirtyKeepsRow.holds Tryz.pinned (OpenSpec.ofChange Rows.dirtyKeepsSpec) :=
  OpenClaim.holds_of_wide 7 Tryz.f7 rfl rfl rfl rfl rfl rfl rfl ⟨rfl, rfl, rfl, rfl, rfl⟩ rfl rfl rfl rfl rfl (by kernel_rfl) Tryz.func7 closed
    (of_decide_eq_true (by kernel_rfl)) (by unfold Func.isWrapper; rw [if_neg (of_decide_eq_false (by kernel_rfl))]; exact ⟨rfl, rfl⟩)
    (fun os started H enc _ => lifted os started H enc)

theorem proved : Rows.DirtyKeepsCardSaid :=
  Claim7.holds_tied_plain_at .later [] [.data, .data, .data, .data, .data, .sentinel, .sentinel, .data, .pinned] true (true, "3ef3d423f552b4e4f6779c8fc1f91b03af2276ae6ccbec5ad6a7bbc24c3b7708") true
    over (fun _ h => by cases h) (by kernel_rfl) (fun _ h => by cases h) dirtyKeeps_row_tie rfl ⟨rfl, rfl⟩ (by kernel_rfl) rfl
    (fun f fn hf hfn => by
      obtain rfl : f = 7 := Option.some.inj ((show Tryz.prog.funcNamed "wagebook/wagebooklaw32.DirtyKeeps" = some 7 by kernel_rfl).symm.trans hf) |>.symm
      obtain rfl : fn = Tryz.f7 := (Option.some.inj (Tryz.func7.symm.trans hfn)).symm
      exact ⟨looksF.symm, fun j t ht => by
        rw [Tryz.params7] at ht
        have hm : t ∈ [56, 3, 3, 3] := by simpa using Array.mem_of_getElem? ht
        have hall : ([56, 3, 3, 3].all fun u => !Tryz.prog.wantsStandIn u) = true := by kernel_rfl
        exact (show Tryz.prog.wantsStandIn t = false by simpa using List.all_eq_true.1 hall t hm)⟩)
    goesF
#print axioms proved
end Go.Proofs.YtgheloooibafcaaGreatDoor.lawDirtyKeeps
