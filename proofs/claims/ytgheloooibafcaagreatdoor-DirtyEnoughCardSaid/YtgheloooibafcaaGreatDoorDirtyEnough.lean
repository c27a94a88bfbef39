/- The statement DirtyEnough holds: on a day ahead of Since, the same value is in force in both views, of a person, and of the firm, whatever the kind and the code are, if its facts count for pay, given what the program lays in its listed variables. -/
import Derived.Test.YtgheloooibafcaaGreatDoorRows
import Derived.Test.YtgheloooibafcaaGreatDoorCards
import Derived.Test.YtgheloooibafcaaGreatDoorTie
import Derived.Test.YtgheloooibafcaaGreatDoorLdD
import Derived.Test.YtgheloooibafcaaGreatDoorDirtyEnoughA
import Derived.Test.YtgheloooibafcaaGreatDoorDirtyEnoughB
import Derived.Test.YtgheloooibafcaaGreatDoorDirtyEnoughC
import Derived.Test.YtgheloooibafcaaGreatDoorDf6
import Derived.ChangeMaps5
import Derived.WalkKit
import Derived.ProofKit
import Derived.Below
import Derived.Carry
import Derived.LaidMore
import Derived.OpenShut
import Derived.Stop.Joined
import Derived.SevenTiedAt
namespace Go.Proofs.YtgheloooibafcaaGreatDoor.lawDirtyEnough
open Go Go.ChangeShapes Go.WideShapes Go.ChangeAt Go.WideMaps Go.WideElems Go.RowKit
theorem own : ownKnob Tryz.prog.godebug = none := by kernel_rfl
theorem laidOut : laidOutB Tryz.prog = true := by kernel_rfl
set_option maxRecDepth 100000 in
theorem lifted (os : Os) (started : os.Started) (H : Type) (enc : TypeId × Value → H) :
    ReturnsInHanded {} Tryz.checked os 8 .any (fun w args => (Rows.dirtyEnoughSpec.pre enc Tryz.prog Tryz.f8 [] false w args ∧ laidMetH Tryz.prog Rows.dirtyEnoughRow.laid w) ∧ sizedMet enc Tryz.prog Tryz.f8 (OpenSpec.ofChange Rows.dirtyEnoughSpec) false w args)
      (Rows.dirtyEnoughSpec.post enc Tryz.prog Tryz.f8 false true false false) := by
  refine returns_laid_sized (C := Tryz.checked) (X := fun w _ => laidMetH Tryz.prog Rows.dirtyEnoughRow.laid w) (fun _ _ _ hh h => h.of_heap hh) own started (by kernel_rfl) Tryz.func8
    (ChangeSpec.witness_shaped (enc := enc) (C := Tryz.checked) (os := os) (X := fun w _ => laidMetH Tryz.prog Rows.dirtyEnoughRow.laid w) false (World.laidAll Tryz.prog os Rows.dirtyEnoughRow.laid) #[.slice none 0 0, .slice none 0 0, .int .u32 0, .int .i64 0, .string ⟨#[]⟩, .int .u16 0] 8 (World.laidAll_os _ _ _) (World.shaped_of_ZipB (by kernel_rfl) (by kernel_rfl)) (by kernel_rfl) (by kernel_rfl) (by kernel_rfl) (door_met os _)) ?_
  intro W base args ds gs before hval0 hW hL hsh hsz
  have hwt := hsz.weights hW
  have hval : ∀ (j : Nat) t v, Tryz.f8.params[j]? = some t → args[j]? = some v → Value.okWide Tryz.prog W .any base t v := hval0
  have hW' := hW
  obtain ⟨p, q, hA0, hV, rfl, hfz, hnd⟩ := hW
  have hA : DataW.TrodAll enc Tryz.prog W 0 (fun _ => true) true Tryz.f8.params.toList args.toList ds p := hA0
  rw [Tryz.params8] at hA hval
  obtain ⟨v0, vs0, d0, ds0, p0, q0, hargs, rfl, rfl, h0, r0⟩ := trodAll_cons hA
  obtain ⟨v1, vs1, d1, ds1, p1, q1, rfl, rfl, rfl, h1, r1⟩ := trodAll_cons r0
  obtain ⟨v2, vs2, d2, ds2, p2, q2, rfl, rfl, rfl, h2, r2⟩ := trodAll_cons r1
  obtain ⟨v3, vs3, d3, ds3, p3, q3, rfl, rfl, rfl, h3, r3⟩ := trodAll_cons r2
  obtain ⟨v4, vs4, d4, ds4, p4, q4, rfl, rfl, rfl, h4, r4⟩ := trodAll_cons r3
  obtain ⟨v5, vs5, d5, ds5, p5, q5, rfl, rfl, rfl, h5, r5⟩ := trodAll_cons r4
  obtain ⟨rfl, rfl, rfl⟩ := trodAll_nil r5
  obtain rfl : args = #[v0, v1, v2, v3, v4, v5] := by cases args; simp_all
  obtain ⟨rfl, rfl⟩ := trodVars_none hV
  have k0 := h0
  have lt0 : ∀ x ∈ p0, x.block < W.heap.size := by obtain ⟨m, hm⟩ := k0; exact DataW.trod_lt m _ _ _ hm
  have o0 := hval 0 22 v0 rfl rfl
  have k1 := h1
  have lt1 : ∀ x ∈ p1, x.block < W.heap.size := by obtain ⟨m, hm⟩ := k1; exact DataW.trod_lt m _ _ _ hm
  have o1 := hval 1 22 v1 rfl rfl
  have k2 := h2
  have lt2 : ∀ x ∈ p2, x.block < W.heap.size := by obtain ⟨m, hm⟩ := k2; exact DataW.trod_lt m _ _ _ hm
  have o2 := hval 2 23 v2 rfl rfl
  have k3 := h3
  have lt3 : ∀ x ∈ p3, x.block < W.heap.size := by obtain ⟨m, hm⟩ := k3; exact DataW.trod_lt m _ _ _ hm
  have o3 := hval 3 3 v3 rfl rfl
  have k4 := h4
  have lt4 : ∀ x ∈ p4, x.block < W.heap.size := by obtain ⟨m, hm⟩ := k4; exact DataW.trod_lt m _ _ _ hm
  have o4 := hval 4 9 v4 rfl rfl
  have k5 := h5
  have lt5 : ∀ x ∈ p5, x.block < W.heap.size := by obtain ⟨m, hm⟩ := k5; exact DataW.trod_lt m _ _ _ hm
  have o5 := hval 5 65 v5 rfl rfl
  obtain ⟨A, ca, l, rfl, hl0, hlc0, hw0, hs0⟩ := open_facts o0 h0
  unfold maxLen at hl0
  obtain ⟨B, cb, m, rfl, hl1, hlc1, hw1, hs1⟩ := open_facts o1 h1
  unfold maxLen at hl1
  obtain ⟨a2, rfl, rfl, rfl, w2⟩ := open_int Tryz.underlying23 o2 h2
  obtain ⟨a3, rfl, rfl, rfl, w3⟩ := open_int Tryz.underlying3 o3 h3
  obtain ⟨co, rfl, rfl, rfl, wco⟩ := Go.ChangeMaps.open_string Tryz.underlying9 o4 h4
  obtain ⟨a5, rfl, rfl, rfl, w5⟩ := open_int Tryz.underlying65 o5 h5
  have hT := tb_of hL hsh
  clear hA0 hval0 hL
  refine (lw_DEnough l m A B ca cb a2 a3 co a5 W (wf_u16 w5) (by omega) (by omega) hw0 hw1 hs0 hs1 hT.1 hT.2).mono fun e W' ⟨he, bel⟩ => ?_
  subst he
  exact ⟨_, rfl, _, _, _, [], _, [], hW', trodAll_mk1 (shut_bool Tryz.underlying4 _), (trodAll_cons_mk (Below.trod laidOut (by kernel_rfl) (of_decide_eq_true (by kernel_rfl)) k0 bel lt0) (trodAll_cons_mk (Below.trod laidOut (by kernel_rfl) (of_decide_eq_true (by kernel_rfl)) k1 bel lt1) (trodAll_cons_mk (Below.trod laidOut (by kernel_rfl) (of_decide_eq_true (by kernel_rfl)) k2 bel lt2) (trodAll_cons_mk (Below.trod laidOut (by kernel_rfl) (of_decide_eq_true (by kernel_rfl)) k3 bel lt3) (trodAll_cons_mk (Below.trod laidOut (by kernel_rfl) (of_decide_eq_true (by kernel_rfl)) k4 bel lt4) (trodAll_cons_mk (Below.trod laidOut (by kernel_rfl) (of_decide_eq_true (by kernel_rfl)) k5 bel lt5) trodAll_mk0)))))), rfl, bel.frame _, fun h => by cases h⟩

theorem closed : joinedFacts Tryz.prog 8 Tryz.f8 Rows.dirtyEnoughSpec Rows.dirtyEnoughRow = true := by
  unfold joinedFacts
  rw [inPlaceF, unfollowedF, recursesF, namedF]
  kernel_rfl
theorem over : Rows.dirtyEnoughRow.holds Tryz.pinned (OpenSpec.ofChange Rows.dirtyEnoughSpec) :=
  OpenClaim.holds_of_wide 8 Tryz.f8 rfl rfl rfl rfl rfl rfl rfl ⟨rfl, rfl, rfl, rfl, rfl⟩ rfl rfl rfl rfl rfl (by kernel_rfl) Tryz.func8 closed
    (of_decide_eq_true (by kernel_rfl)) (by unfold Func.isWrapper; rw [if_neg (of_decide_eq_false (by kernel_rfl))]; exact ⟨rfl, rfl⟩)
    (fun os started H enc _ => lifted os started H enc)

theorem proved : Rows.DirtyEnoughCardSaid :=
  Claim7.holds_tied_plain_at .later [] [.data, .data, .data, .data, .data, .sentinel, .sentinel, .data, .pinned] true (true, "3ef3d423f552b4e4f6779c8fc1f91b03af2276ae6ccbec5ad6a7bbc24c3b7708") true
    over (fun _ h => by cases h) (by kernel_rfl) (fun _ h => by cases h) dirtyEnough_row_tie rfl ⟨rfl, rfl⟩ (by kernel_rfl) rfl
    (fun f fn hf hfn => by
      obtain rfl : f = 8 := Option.some.inj ((show Tryz.prog.funcNamed "wagebook/wagebooklaw32.DirtyEnough" = some 8 by kernel_rfl).symm.trans hf) |>.symm
      obtain rfl : fn = Tryz.f8 := (Option.some.inj (Tryz.func8.symm.trans hfn)).symm
      exact ⟨looksF.symm, fun j t ht => by
        rw [Tryz.params8] at ht
        have hm : t ∈ [22, 22, 23, 3, 9, 65] := by simpa using Array.mem_of_getElem? ht
        have hall : ([22, 22, 23, 3, 9, 65].all fun u => !Tryz.prog.wantsStandIn u) = true := by kernel_rfl
        exact (show Tryz.prog.wantsStandIn t = false by simpa using List.all_eq_true.1 hall t hm)⟩)
    goesF
#print axioms proved
end Go.Proofs.YtgheloooibafcaaGreatDoor.lawDirtyEnough
