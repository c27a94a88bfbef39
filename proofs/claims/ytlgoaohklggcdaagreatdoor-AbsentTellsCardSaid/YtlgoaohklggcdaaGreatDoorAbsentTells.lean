/- The statement AbsentTells holds: a person's absences, of any facts, in any span, or what is wrong, are the document's; so is the kind of any code, given what the program lays in its listed variables. -/
import Derived.Test.YtlgoaohklggcdaaGreatDoorRows
import Derived.Test.YtlgoaohklggcdaaGreatDoorCards
import Derived.Test.YtlgoaohklggcdaaGreatDoorTie
import Derived.Test.YtlgoaohklggcdaaGreatDoorLdE
import Derived.Test.YtlgoaohklggcdaaGreatDoorAbsentTellsA
import Derived.Test.YtlgoaohklggcdaaGreatDoorAbsentTellsB
import Derived.Test.YtlgoaohklggcdaaGreatDoorAbsentTellsC
import Derived.Test.YtlgoaohklggcdaaGreatDoorAbr
import Derived.Test.YtlgoaohklggcdaaGreatDoorLdF
import Derived.ChangeMaps5
import Derived.WalkKit
import Derived.ProofKit
import Derived.Below
import Derived.Carry
import Derived.LaidMore
import Derived.OpenShut
import Derived.Stop.Joined
import Derived.SevenTiedAt
namespace Go.Proofs.YtlgoaohklggcdaaGreatDoor.lawAbsentTells
open Go Go.ChangeShapes Go.WideShapes Go.ChangeAt Go.WideMaps Go.WideElems Go.RowKit
theorem own : ownKnob Tryz.prog.godebug = none := by kernel_rfl
theorem laidOut : laidOutB Tryz.prog = true := by kernel_rfl
set_option maxRecDepth 100000 in
theorem lifted (os : Os) (started : os.Started) (H : Type) (enc : TypeId × Value → H) :
    ReturnsInHanded {} Tryz.checked os 12 .any (fun w args => (Rows.absentTellsSpec.pre enc Tryz.prog Tryz.f12 [] false w args ∧ laidMetH Tryz.prog Rows.absentTellsRow.laid w) ∧ sizedMet enc Tryz.prog Tryz.f12 (OpenSpec.ofChange Rows.absentTellsSpec) false w args)
      (Rows.absentTellsSpec.post enc Tryz.prog Tryz.f12 false true false false) := by
  refine returns_laid_sized (C := Tryz.checked) (X := fun w _ => laidMetH Tryz.prog Rows.absentTellsRow.laid w) (fun _ _ _ hh h => h.of_heap hh) own started (by kernel_rfl) Tryz.func12
    (ChangeSpec.witness_shaped (enc := enc) (C := Tryz.checked) (os := os) (X := fun w _ => laidMetH Tryz.prog Rows.absentTellsRow.laid w) false (World.laidAll Tryz.prog os Rows.absentTellsRow.laid) #[.slice none 0 0, .int .u32 0, .agg #[.int .i64 0, .int .i64 0], .string ⟨#[]⟩] 8 (World.laidAll_os _ _ _) (World.shaped_of_ZipB (by kernel_rfl) (by kernel_rfl)) (by kernel_rfl) (by kernel_rfl) (by kernel_rfl) (door_met os _)) ?_
  intro W base args ds gs before hval0 hW hL hsh hsz
  have hwt := hsz.weights hW
  have hval : ∀ (j : Nat) t v, Tryz.f12.params[j]? = some t → args[j]? = some v → Value.okWide Tryz.prog W .any base t v := hval0
  have hW' := hW
  obtain ⟨p, q, hA0, hV, rfl, hfz, hnd⟩ := hW
  have hA : DataW.TrodAll enc Tryz.prog W 0 (fun _ => true) true Tryz.f12.params.toList args.toList ds p := hA0
  rw [Tryz.params12] at hA hval
  obtain ⟨v0, vs0, d0, ds0, p0, q0, hargs, rfl, rfl, h0, r0⟩ := trodAll_cons hA
  obtain ⟨v1, vs1, d1, ds1, p1, q1, rfl, rfl, rfl, h1, r1⟩ := trodAll_cons r0
  obtain ⟨v2, vs2, d2, ds2, p2, q2, rfl, rfl, rfl, h2, r2⟩ := trodAll_cons r1
  obtain ⟨v3, vs3, d3, ds3, p3, q3, rfl, rfl, rfl, h3, r3⟩ := trodAll_cons r2
  obtain ⟨rfl, rfl, rfl⟩ := trodAll_nil r3
  obtain rfl : args = #[v0, v1, v2, v3] := by cases args; simp_all
  obtain ⟨rfl, rfl⟩ := trodVars_none hV
  have k0 := h0
  have lt0 : ∀ x ∈ p0, x.block < W.heap.size := by obtain ⟨m, hm⟩ := k0; exact DataW.trod_lt m _ _ _ hm
  have o0 := hval 0 22 v0 rfl rfl
  have k1 := h1
  have lt1 : ∀ x ∈ p1, x.block < W.heap.size := by obtain ⟨m, hm⟩ := k1; exact DataW.trod_lt m _ _ _ hm
  have o1 := hval 1 23 v1 rfl rfl
  have k2 := h2
  have lt2 : ∀ x ∈ p2, x.block < W.heap.size := by obtain ⟨m, hm⟩ := k2; exact DataW.trod_lt m _ _ _ hm
  have o2 := hval 2 31 v2 rfl rfl
  have k3 := h3
  have lt3 : ∀ x ∈ p3, x.block < W.heap.size := by obtain ⟨m, hm⟩ := k3; exact DataW.trod_lt m _ _ _ hm
  have o3 := hval 3 9 v3 rfl rfl
  obtain ⟨A, ca, l, rfl, hl0, hlc0, hw0, hs0⟩ := open_facts o0 h0
  unfold maxLen at hl0
  obtain ⟨a1, rfl, rfl, rfl, w1⟩ := open_int Tryz.underlying23 o1 h1
  obtain ⟨sx, sy, rfl, ha2, hb2⟩ := open_span o2 h2
  obtain ⟨tx, rfl, rfl, rfl, wtx⟩ := Go.ChangeMaps.open_string Tryz.underlying9 o3 h3
  have hT := tb_of hL hsh
  clear hA0 hval0 hL
  refine (lw_AbsentTells l A ca a1 sx sy tx W (by omega) hw0 hs0 ha2 hb2 hT.1 hT.2).mono fun e W' ⟨he, bel⟩ => ?_
  subst he
  exact ⟨_, rfl, _, _, _, [], _, [], hW', trodAll_mk1 (shut_bool Tryz.underlying4 _), (trodAll_cons_mk (Below.trod laidOut (by kernel_rfl) (of_decide_eq_true (by kernel_rfl)) k0 bel lt0) (trodAll_cons_mk (Below.trod laidOut (by kernel_rfl) (of_decide_eq_true (by kernel_rfl)) k1 bel lt1) (trodAll_cons_mk (Below.trod laidOut (by kernel_rfl) (of_decide_eq_true (by kernel_rfl)) k2 bel lt2) (trodAll_cons_mk (Below.trod laidOut (by kernel_rfl) (of_decide_eq_true (by kernel_rfl)) k3 bel lt3) trodAll_mk0)))), rfl, bel.frame _, fun h => by cases h⟩

theorem closed : joinedFacts Tryz.prog 12 Tryz.f12 Rows.absentTellsSpec Rows.absentTellsRow = true := by
  unfold joinedFacts
  rw [inPlaceF, unfollowedF, recursesF, namedF]
  kernel_rfl
theorem over : Rows.absentTellsRow.holds Tryz.pinned (OpenSpec.ofChange Rows.absentTellsSpec) :=
  OpenClaim.holds_of_wide 12 Tryz.f12 rfl rfl rfl rfl rfl rfl rfl ⟨rfl, rfl, rfl, rfl, rfl⟩ rfl rfl rfl rfl rfl (by kernel_rfl) Tryz.func12 closed
    (of_decide_eq_true (by kernel_rfl)) (by unfold Func.isWrapper; rw [if_neg (of_decide_eq_false (by kernel_rfl))]; exact ⟨rfl, rfl⟩)
    (fun os started H enc _ => lifted os started H enc)

theorem proved : Rows.AbsentTellsCardSaid :=
  Claim7.holds_tied_plain_at .later [] [.data, .data, .data, .data, .data, .sentinel, .sentinel, .pinned] true (true, "b7df1d5e03d89ee1ad631e40857ce42b2b267c4e7fa7ca66f9a29a53b4ad54cb") true
    over (fun _ h => by cases h) (by kernel_rfl) (fun _ h => by cases h) absentTells_row_tie rfl ⟨rfl, rfl⟩ (by kernel_rfl) rfl
    (fun f fn hf hfn => by
      obtain rfl : f = 12 := Option.some.inj ((show Tryz.prog.funcNamed "wagebook/wagebooklaw18.AbsentTells" = some 12 by kernel_rfl).symm.trans hf) |>.symm
      obtain rfl : fn = Tryz.f12 := (Option.some.inj (Tryz.func12.symm.trans hfn)).symm
      exact ⟨looksF.symm, fun j t ht => by
        rw [Tryz.params12] at ht
        have hm : t ∈ [22, 23, 31, 9] := by simpa using Array.mem_of_getElem? ht
        have hall : ([22, 23, 31, 9].all fun u => !Tryz.prog.wantsStandIn u) = true := by kernel_rfl
        exact (show Tryz.prog.wantsStandIn t = false by simpa using List.all_eq_true.1 hall t hm)⟩)
    goesF
#print axioms proved
end Go.Proofs.YtlgoaohklggcdaaGreatDoor.lawAbsentTells
