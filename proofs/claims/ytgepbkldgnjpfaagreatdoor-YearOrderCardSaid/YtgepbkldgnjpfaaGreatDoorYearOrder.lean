/- The statement YearOrder holds: the order in which a Month's gross items stand, and items cut in two of one code, change nothing, given what the program lays in its listed variables. -/
import Derived.Test.YtgepbkldgnjpfaaGreatDoorRows
import Derived.Test.YtgepbkldgnjpfaaGreatDoorCards
import Derived.Test.YtgepbkldgnjpfaaGreatDoorTie
import Derived.Test.YtgepbkldgnjpfaaGreatDoorZgad
import Derived.Test.YtgepbkldgnjpfaaGreatDoorYearOrderA
import Derived.Test.YtgepbkldgnjpfaaGreatDoorYearOrderB
import Derived.Test.YtgepbkldgnjpfaaGreatDoorYearOrderC
import Derived.Test.YtgepbkldgnjpfaaGreatDoorZgaq
import Derived.WalkKit
import Derived.ProofKit
import Derived.Below
import Derived.Carry
import Derived.LaidMore
import Derived.OpenShut
import Derived.Stop.Joined
import Derived.SevenTiedAt
namespace Go.Proofs.YtgepbkldgnjpfaaGreatDoor.lawYearOrder
open Go Go.ChangeShapes Go.WideShapes Go.ChangeAt Go.WideMaps Go.WideElems Go.RowKit
theorem own : ownKnob Tryz.prog.godebug = none := by kernel_rfl
theorem laidOut : laidOutB Tryz.prog = true := by kernel_rfl
set_option maxRecDepth 100000 in
theorem lifted (os : Os) (started : os.Started) (H : Type) (enc : TypeId × Value → H) :
    ReturnsInHanded {} Tryz.checked os 7 .any (fun w args => (Rows.yearOrderSpec.pre enc Tryz.prog Tryz.f7 [] false w args ∧ laidMetH Tryz.prog Rows.yearOrderRow.laid w) ∧ sizedMet enc Tryz.prog Tryz.f7 (OpenSpec.ofChange Rows.yearOrderSpec) false w args)
      (Rows.yearOrderSpec.post enc Tryz.prog Tryz.f7 false true false false) := by
  refine returns_laid_sized (C := Tryz.checked) (X := fun w _ => laidMetH Tryz.prog Rows.yearOrderRow.laid w) (fun _ _ _ hh h => h.of_heap hh) own started (by kernel_rfl) Tryz.func7
    (ChangeSpec.witness_shaped (enc := enc) (C := Tryz.checked) (os := os) (X := fun w _ => laidMetH Tryz.prog Rows.yearOrderRow.laid w) false (World.laidAll Tryz.prog os Rows.yearOrderRow.laid) #[.slice none 0 0] 8 (World.laidAll_os _ _ _) (World.shaped_of_ZipB (by kernel_rfl) (by kernel_rfl)) (by kernel_rfl) (by kernel_rfl) (by kernel_rfl) (door_met os _)) ?_
  intro W base args ds gs before hval0 hW hL hsh hsz
  have hwt := hsz.weights hW
  have hval : ∀ (j : Nat) t v, Tryz.f7.params[j]? = some t → args[j]? = some v → Value.okWide Tryz.prog W .any base t v := hval0
  have hW' := hW
  obtain ⟨p, q, hA0, hV, rfl, hfz, hnd⟩ := hW
  have hA : DataW.TrodAll enc Tryz.prog W 0 (fun _ => true) true Tryz.f7.params.toList args.toList ds p := hA0
  rw [Tryz.params7] at hA hval
  obtain ⟨v0, vs0, d0, ds0, p0, q0, hargs, rfl, rfl, h0, r0⟩ := trodAll_cons hA
  obtain ⟨rfl, rfl, rfl⟩ := trodAll_nil r0
  obtain rfl : args = #[v0] := by cases args; simp_all
  obtain ⟨rfl, rfl⟩ := trodVars_none hV
  have k0 := h0
  have lt0 : ∀ x ∈ p0, x.block < W.heap.size := by obtain ⟨m, hm⟩ := k0; exact DataW.trod_lt m _ _ _ hm
  have o0 := hval 0 22 v0 rfl rfl
  obtain ⟨A, cap, l, rfl, hl0, hs0⟩ := open_months o0 h0 (fun n hn => by
    have := List.all_eq_true.1 hwt n (DataW.weights_mem_each (j := 0) rfl rfl n hn)
    simpa using this)
  have hT := tb_of hL hsh
  clear hA0 hval0 hL
  refine (lw_YearOrder l A cap W (by omega) hs0 hT).mono fun e W' ⟨he, bel⟩ => ?_
  subst he
  exact ⟨_, rfl, _, _, _, [], _, [], hW', trodAll_mk1 (shut_bool Tryz.underlying4 _), (trodAll_cons_mk (Below.trod laidOut (by kernel_rfl) (of_decide_eq_true (by kernel_rfl)) k0 bel lt0) trodAll_mk0), rfl, bel.frame _, fun h => by cases h⟩

theorem closed : joinedFacts Tryz.prog 7 Tryz.f7 Rows.yearOrderSpec Rows.yearOrderRow = true := by
  unfold joinedFacts
  rw [inPlaceF, unfollowedF, recursesF, namedF]
  kernel_rfl
theorem over : Rows.yearOrderRow.holds Tryz.pinned (OpenSpec.ofChange Rows.yearOrderSpec) :=
  OpenClaim.holds_of_wide 7 Tryz.f7 rfl rfl rfl rfl rfl rfl rfl ⟨rfl, rfl, rfl, rfl, rfl⟩ rfl rfl rfl rfl rfl (by kernel_rfl) Tryz.func7 closed
    (of_decide_eq_true (by kernel_rfl)) (by unfold Func.isWrapper; rw [if_neg (of_decide_eq_false (by kernel_rfl))]; exact ⟨rfl, rfl⟩)
    (fun os started H enc _ => lifted os started H enc)

theorem proved : Rows.YearOrderCardSaid :=
  Claim7.holds_tied_plain_at .later [] [.data, .data, .data, .data, .sentinel, .sentinel, .pinned] true (true, "0636d8ed87701a353126cee0dce20df21dc36edfba780f606db9805df5db5fbb") true
    over (fun _ h => by cases h) (by kernel_rfl) (fun _ h => by cases h) yearOrder_row_tie rfl ⟨rfl, rfl⟩ (by kernel_rfl) rfl
    (fun f fn hf hfn => by
      obtain rfl : f = 7 := Option.some.inj ((show Tryz.prog.funcNamed "wagebook/wagebooklaw28.YearOrder" = some 7 by kernel_rfl).symm.trans hf) |>.symm
      obtain rfl : fn = Tryz.f7 := (Option.some.inj (Tryz.func7.symm.trans hfn)).symm
      exact ⟨looksF.symm, fun j t ht => by
        rw [Tryz.params7] at ht
        have hm : t ∈ [22] := by simpa using Array.mem_of_getElem? ht
        have hall : ([22].all fun u => !Tryz.prog.wantsStandIn u) = true := by kernel_rfl
        exact (show Tryz.prog.wantsStandIn t = false by simpa using List.all_eq_true.1 hall t hm)⟩)
    goesF
#print axioms proved
end Go.Proofs.YtgepbkldgnjpfaaGreatDoor.lawYearOrder
