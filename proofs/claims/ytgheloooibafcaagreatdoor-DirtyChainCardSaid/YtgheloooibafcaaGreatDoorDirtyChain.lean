/- The statement DirtyChain holds: what is unlike in a first and a third view is unlike from no earlier day on than what is unlike in the first and the second one, or in the second and the third one, given what the program lays in its listed variables. -/
import Derived.Test.YtgheloooibafcaaGreatDoorRows
import Derived.Test.YtgheloooibafcaaGreatDoorCards
import Derived.Test.YtgheloooibafcaaGreatDoorTie
import Derived.Test.YtgheloooibafcaaGreatDoorLdD
import Derived.Test.YtgheloooibafcaaGreatDoorDirtyChainA
import Derived.Test.YtgheloooibafcaaGreatDoorDirtyChainB
import Derived.Test.YtgheloooibafcaaGreatDoorDirtyChainC
import Derived.Test.YtgheloooibafcaaGreatDoorDf3
import Derived.WalkKit
import Derived.ProofKit
import Derived.Below
import Derived.Carry
import Derived.LaidMore
import Derived.OpenShut
import Derived.Stop.Joined
import Derived.SevenTiedAt
namespace Go.Proofs.YtgheloooibafcaaGreatDoor.lawDirtyChain
open Go Go.ChangeShapes Go.WideShapes Go.ChangeAt Go.WideMaps Go.WideElems Go.RowKit
theorem own : ownKnob Tryz.prog.godebug = none := by kernel_rfl
theorem laidOut : laidOutB Tryz.prog = true := by kernel_rfl
set_option maxRecDepth 100000 in
theorem lifted (os : Os) (started : os.Started) (H : Type) (enc : TypeId × Value → H) :
    ReturnsInHanded {} Tryz.checked os 5 .any (fun w args => (Rows.dirtyChainSpec.pre enc Tryz.prog Tryz.f5 [] false w args ∧ laidMetH Tryz.prog Rows.dirtyChainRow.laid w) ∧ sizedMet enc Tryz.prog Tryz.f5 (OpenSpec.ofChange Rows.dirtyChainSpec) false w args)
      (Rows.dirtyChainSpec.post enc Tryz.prog Tryz.f5 false true false false) := by
  refine returns_laid_sized (C := Tryz.checked) (X := fun w _ => laidMetH Tryz.prog Rows.dirtyChainRow.laid w) (fun _ _ _ hh h => h.of_heap hh) own started (by kernel_rfl) Tryz.func5
    (ChangeSpec.witness_shaped (enc := enc) (C := Tryz.checked) (os := os) (X := fun w _ => laidMetH Tryz.prog Rows.dirtyChainRow.laid w) false (World.laidAll Tryz.prog os Rows.dirtyChainRow.laid) #[.slice none 0 0, .slice none 0 0, .slice none 0 0, .int .u32 0] 8 (World.laidAll_os _ _ _) (World.shaped_of_ZipB (by kernel_rfl) (by kernel_rfl)) (by kernel_rfl) (by kernel_rfl) (by kernel_rfl) (door_met os _)) ?_
  intro W base args ds gs before hval0 hW hL hsh hsz
  have hwt := hsz.weights hW
  have hval : ∀ (j : Nat) t v, Tryz.f5.params[j]? = some t → args[j]? = some v → Value.okWide Tryz.prog W .any base t v := hval0
  have hW' := hW
  obtain ⟨p, q, hA0, hV, rfl, hfz, hnd⟩ := hW
  have hA : DataW.TrodAll enc Tryz.prog W 0 (fun _ => true) true Tryz.f5.params.toList args.toList ds p := hA0
  rw [Tryz.params5] at hA hval
  obtain ⟨v0, vs0, d0, ds0, p0, q0, hargs, rfl, rfl, h0, r0⟩ := trodAll_cons hA
  obtain ⟨v1, vs1, d1, ds1, p1, q1, rfl, rfl, rfl, h1, r1⟩ := trodAll_cons r0
  obtain ⟨v2, vs2, d2, ds2, p2, q2, rfl, rfl, rfl, h2, r2⟩ := trodAll_cons r1
  obtain ⟨v3, vs3, d3, ds3, p3, q3, rfl, rfl, rfl, h3, r3⟩ := trodAll_cons r2
  obtain ⟨rfl, rfl, rfl⟩ := trodAll_nil r3
  obtain rfl : args = #[v0, v1, v2, v3] := by cases args; simp_all
  obtain ⟨rfl, rfl⟩ := trodVars_none hV
  have k0 := h0
  have lt0 : ∀ x ∈ p0, x.block < W.heap.size := by obtain ⟨m, hm⟩ := k0; exact DataW.trod_lt m _ _ _ hm
  have o0 := hval 0 22 v0 rfl rfl
  have k1 := h1
  have lt1 : ∀ x ∈ p1, x.block < W.heap.size := by obtain ⟨m, hm⟩ := k1; exact DataW.trod_lt m _ _ _ hm
  have o1 := hval 1 22 v1 rfl rfl
  have k2 := h2
  have lt2 : ∀ x ∈ p2, x.block < W.heap.size := by obtain ⟨m, hm⟩ := k2; exact DataW.trod_lt m _ _ _ hm
  have o2 := hval 2 22 v2 rfl rfl
  have k3 := h3
  have lt3 : ∀ x ∈ p3, x.block < W.heap.size := by obtain ⟨m, hm⟩ := k3; exact DataW.trod_lt m _ _ _ hm
  have o3 := hval 3 23 v3 rfl rfl
  obtain ⟨A, ca, l, rfl, hl0, hlc0, hw0, hs0⟩ := open_facts o0 h0
  unfold maxLen at hl0
  obtain ⟨B, cb, m, rfl, hl1, hlc1, hw1, hs1⟩ := open_facts o1 h1
  unfold maxLen at hl1
  obtain ⟨C, cc, n, rfl, hl2, hlc2, hw2, hs2⟩ := open_facts o2 h2
  unfold maxLen at hl2
  obtain ⟨a3, rfl, rfl, rfl, w3⟩ := open_int Tryz.underlying23 o3 h3
  have hT := tb_of hL hsh
  clear hA0 hval0 hL
  refine (lw_DChain l m n A B C ca cb cc a3 W (by omega) (by omega) (by omega) hw0 hw1 hw2 hs0 hs1 hs2 hT.1 hT.2).mono fun e W' ⟨he, bel⟩ => ?_
  subst he
  exact ⟨_, rfl, _, _, _, [], _, [], hW', trodAll_mk1 (shut_bool Tryz.underlying4 _), (trodAll_cons_mk (Below.trod laidOut (by kernel_rfl) (of_decide_eq_true (by kernel_rfl)) k0 bel lt0) (trodAll_cons_mk (Below.trod laidOut (by kernel_rfl) (of_decide_eq_true (by kernel_rfl)) k1 bel lt1) (trodAll_cons_mk (Below.trod laidOut (by kernel_rfl) (of_decide_eq_true (by kernel_rfl)) k2 bel lt2) (trodAll_cons_mk (Below.trod laidOut (by kernel_rfl) (of_decide_eq_true (by kernel_rfl)) k3 bel lt3) trodAll_mk0)))), rfl, bel.frame _, fun h => by cases h⟩

theorem closed : joinedFacts Tryz.prog 5 Tryz.f5 Rows.dirtyChainSpec Rows.dirtyChainRow = true := by
  unfold joinedFacts
  rw [inPlaceF, unfollowedF, recursesF, namedF]
  kernel_rfl
theorem over : Rows.dirtyChainRow.holds Tryz.pinned (OpenSpec.ofChange Rows.dirtyChainSpec) :=
  OpenClaim.holds_of_wide 5 Tryz.f5 rfl rfl rfl rfl rfl rfl rfl ⟨rfl, rfl, rfl, rfl, rfl⟩ rfl rfl rfl rfl rfl (by kernel_rfl) Tryz.func5 closed
    (of_decide_eq_true (by kernel_rfl)) (by unfold Func.isWrapper; rw [if_neg (of_decide_eq_false (by kernel_rfl))]; exact ⟨rfl, rfl⟩)
    (fun os started H enc _ => lifted os started H enc)

theorem proved : Rows.DirtyChainCardSaid :=
  Claim7.holds_tied_plain_at .later [] [.data, .data, .data, .data, .data, .sentinel, .sentinel, .data, .pinned] true (true, "3ef3d423f552b4e4f6779c8fc1f91b03af2276ae6ccbec5ad6a7bbc24c3b7708") true
    over (fun _ h => by cases h) (by kernel_rfl) (fun _ h => by cases h) dirtyChain_row_tie rfl ⟨rfl, rfl⟩ (by kernel_rfl) rfl
    (fun f fn hf hfn => by
      obtain rfl : f = 5 := Option.some.inj ((show Tryz.prog.funcNamed "wagebook/wagebooklaw32.DirtyChain" = some 5 by kernel_rfl).symm.trans hf) |>.symm
      obtain rfl : fn = Tryz.f5 := (Option.some.inj (Tryz.func5.symm.trans hfn)).symm
      exact ⟨looksF.symm, fun j t ht => by
        rw [Tryz.params5] at ht
        have hm : t ∈ [22, 22, 22, 23] := by simpa using Array.mem_of_getElem? ht
        have hall : ([22, 22, 22, 23].all fun u => !Tryz.prog.wantsStandIn u) = true := by kernel_rfl
        exact (show Tryz.prog.wantsStandIn t = false by simpa using List.all_eq_true.1 hall t hm)⟩)
    goesF
#print axioms proved
end Go.Proofs.YtgheloooibafcaaGreatDoor.lawDirtyChain
