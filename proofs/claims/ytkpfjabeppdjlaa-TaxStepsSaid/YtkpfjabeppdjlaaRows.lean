/-
  No cell of these rows narrows 'for every input' (looked for: loops, veiled, ifaces, maps, wideKeys, modest, calm, conditions, laid).
  DERIVED. THE GIVEN ROWS OF THIS SEAT. 5 by the template 'for every input the law returns true; each argument reads behind the call as it read before'; 0 by the template 'total and deterministic' (their statements: YtkpfjabeppdjlaaTotals.lean).
  GIVEN WITH THE SEED: the statements are not yours to turn. If you find one false, say at which input.
  Laid BY PROGRAM, IN A SANDBOX (cutbox-rows.mjs): the forced cells as the released guide's own fill.sh prints them over the translation 9e011ed5964cfcf8… (all of the seat's roots in one cut). By AI agents, Wed Nov 11 2026. No macro, syntax, notation, axiom, sorry.
-/
import Derived.Test.YtkpfjabeppdjlaaChecked
import GoSem.Claim
import GoSem.ClaimJoined
import GoSem.ClaimMapViews
import Derived.JoinedTies
import Derived.KernelRfl
namespace Go.Proofs.Ytkpfjabeppdjlaa
/- THE CELL 'sum', in the pinned program and in every row, IS THE sha256 OF THE DUMP (.gsa) THAT YtkpfjabeppdjlaaProg.lean LOADS. Nothing in Lean hashes anything: it is a label: what it is worth is what the hold of that sum in a sandbox is worth. -/
noncomputable def Try.pinned : Pinned := { name := "ytkpfjabeppdjlaa", sum := "9e011ed5964cfcf817dec99cf566c727723c757f88a6b36a47fe9466f1e8aa5d", checked := Try.checked }
namespace Rows
def none {H : Type} : Left H := { results := [], args := [] }

/-- 'wagebooklaw24.TaxSteps': WHATEVER THE INPUT: true; the input reads as it did. -/
def taxStepsSpec : ChangeSpec := { name := "taxSteps", fn := fun _ => fun
  | [d1, d2, d3, d4, d5] => { results := [.lit (.bool true)], args := [d1, d2, d3, d4, d5] }
  | _ => none }
def taxStepsRow : OpenClaim := { program := "ytkpfjabeppdjlaa", sum := "9e011ed5964cfcf817dec99cf566c727723c757f88a6b36a47fe9466f1e8aa5d", func := "wagebook/wagebooklaw24.TaxSteps", spec := "taxSteps", unfollowed := true, recurses := true, apart := false }
def TaxStepsSaid : Prop := taxStepsRow.holds Try.pinned (OpenSpec.ofChange taxStepsSpec)

/-- ITS FALSE NEIGHBOUR: 'it returns false'. Refute it at one input. -/
def taxStepsWrong : ChangeSpec := { name := "taxSteps", fn := fun _ => fun
  | [d1, d2, d3, d4, d5] => { results := [.lit (.bool false)], args := [d1, d2, d3, d4, d5] }
  | _ => none }
def TaxStepsWrongFalsely : Prop := taxStepsRow.holds Try.pinned (OpenSpec.ofChange taxStepsWrong)

/-- 'wagebooklaw24.TaxRises': WHATEVER THE INPUT: true; the input reads as it did. -/
def taxRisesSpec : ChangeSpec := { name := "taxRises", fn := fun _ => fun
  | [d1, d2, d3, d4, d5] => { results := [.lit (.bool true)], args := [d1, d2, d3, d4, d5] }
  | _ => none }
def taxRisesRow : OpenClaim := { program := "ytkpfjabeppdjlaa", sum := "9e011ed5964cfcf817dec99cf566c727723c757f88a6b36a47fe9466f1e8aa5d", func := "wagebook/wagebooklaw24.TaxRises", spec := "taxRises", unfollowed := true, recurses := true, apart := false }
def TaxRisesSaid : Prop := taxRisesRow.holds Try.pinned (OpenSpec.ofChange taxRisesSpec)

/-- ITS FALSE NEIGHBOUR: 'it returns false'. Refute it at one input. -/
def taxRisesWrong : ChangeSpec := { name := "taxRises", fn := fun _ => fun
  | [d1, d2, d3, d4, d5] => { results := [.lit (.bool false)], args := [d1, d2, d3, d4, d5] }
  | _ => none }
def TaxRisesWrongFalsely : Prop := taxRisesRow.holds Try.pinned (OpenSpec.ofChange taxRisesWrong)

/-- 'wagebooklaw24.TaxCards': WHATEVER THE INPUT: true; the input reads as it did. -/
def taxCardsSpec : ChangeSpec := { name := "taxCards", fn := fun _ => fun
  | [d1, d2, d3, d4, d5] => { results := [.lit (.bool true)], args := [d1, d2, d3, d4, d5] }
  | _ => none }
def taxCardsRow : OpenClaim := { program := "ytkpfjabeppdjlaa", sum := "9e011ed5964cfcf817dec99cf566c727723c757f88a6b36a47fe9466f1e8aa5d", func := "wagebook/wagebooklaw24.TaxCards", spec := "taxCards", unfollowed := true, recurses := true, apart := false }
def TaxCardsSaid : Prop := taxCardsRow.holds Try.pinned (OpenSpec.ofChange taxCardsSpec)

/-- ITS FALSE NEIGHBOUR: 'it returns false'. Refute it at one input. -/
def taxCardsWrong : ChangeSpec := { name := "taxCards", fn := fun _ => fun
  | [d1, d2, d3, d4, d5] => { results := [.lit (.bool false)], args := [d1, d2, d3, d4, d5] }
  | _ => none }
def TaxCardsWrongFalsely : Prop := taxCardsRow.holds Try.pinned (OpenSpec.ofChange taxCardsWrong)

/-- 'wagebooklaw24.TaxEven': WHATEVER THE INPUT: true; the input reads as it did. -/
def taxEvenSpec : ChangeSpec := { name := "taxEven", fn := fun _ => fun
  | [d1, d2, d3] => { results := [.lit (.bool true)], args := [d1, d2, d3] }
  | _ => none }
def taxEvenRow : OpenClaim := { program := "ytkpfjabeppdjlaa", sum := "9e011ed5964cfcf817dec99cf566c727723c757f88a6b36a47fe9466f1e8aa5d", func := "wagebook/wagebooklaw24.TaxEven", spec := "taxEven", unfollowed := true, recurses := true, apart := false }
def TaxEvenSaid : Prop := taxEvenRow.holds Try.pinned (OpenSpec.ofChange taxEvenSpec)

/-- ITS FALSE NEIGHBOUR: 'it returns false'. Refute it at one input. -/
def taxEvenWrong : ChangeSpec := { name := "taxEven", fn := fun _ => fun
  | [d1, d2, d3] => { results := [.lit (.bool false)], args := [d1, d2, d3] }
  | _ => none }
def TaxEvenWrongFalsely : Prop := taxEvenRow.holds Try.pinned (OpenSpec.ofChange taxEvenWrong)

/-- 'wagebooklaw24.TaxDates': WHATEVER THE INPUT: true; the input reads as it did. -/
def taxDatesSpec : ChangeSpec := { name := "taxDates", fn := fun _ => fun
  | [d1, d2, d3, d4] => { results := [.lit (.bool true)], args := [d1, d2, d3, d4] }
  | _ => none }
def taxDatesRow : OpenClaim := { program := "ytkpfjabeppdjlaa", sum := "9e011ed5964cfcf817dec99cf566c727723c757f88a6b36a47fe9466f1e8aa5d", func := "wagebook/wagebooklaw24.TaxDates", spec := "taxDates", unfollowed := true, recurses := true, apart := false }
def TaxDatesSaid : Prop := taxDatesRow.holds Try.pinned (OpenSpec.ofChange taxDatesSpec)

/-- ITS FALSE NEIGHBOUR: 'it returns false'. Refute it at one input. -/
def taxDatesWrong : ChangeSpec := { name := "taxDates", fn := fun _ => fun
  | [d1, d2, d3, d4] => { results := [.lit (.bool false)], args := [d1, d2, d3, d4] }
  | _ => none }
def TaxDatesWrongFalsely : Prop := taxDatesRow.holds Try.pinned (OpenSpec.ofChange taxDatesWrong)

/- THE SECOND FORM. 'bulk': how many values and letters a reading holds, each counted each time it is reached (what is shared counts as often as it is met; a slice's spare places count too). A statement '..UptoSaid' is the law's where the arguments, and the package variables that the reading takes, are together of bulk at most 1048576: NARROWER than '..Said'. Prove '..Said' where nothing that the law and all that it calls make is longer than what came in: it says more and counts as full. Else prove '..UptoSaid'. A law counts once. -/
mutual
def uptoBulk {H : Type} : DataW H → Nat
  | .lit (.string bytes) => bytes.length + 1
  | .lit _ => 1
  | .nil => 1
  | .ptr d => uptoBulk d + 1
  | .slice elems spare => uptoBulkAll elems + uptoBulkAll spare + 1
  | .agg parts => uptoBulkAll parts + 1
  | .iface _ d => uptoBulk d + 1
  | .map entries => uptoBulkEntries entries + 1
  | .held _ => 1
def uptoBulkAll {H : Type} : List (DataW H) → Nat
  | [] => 0
  | d :: r => uptoBulk d + uptoBulkAll r
def uptoBulkEntries {H : Type} : List (Lit × DataW H) → Nat
  | [] => 0
  | x :: r => uptoBulkEntry x + uptoBulkEntries r
def uptoBulkEntry {H : Type} : Lit × DataW H → Nat
  | (.string bytes, d) => bytes.length + uptoBulk d + 1
  | (_, d) => uptoBulk d + 1
 end
def uptoSmall : (H : Type) → List (DataW H) → Bool := fun _ ds => decide (uptoBulkAll ds ≤ 1048576)
def OpenSpec.upto (s : _root_.Go.ChangeSpec) : _root_.Go.OpenSpec := { _root_.Go.OpenSpec.ofChange s with cond := some uptoSmall }

/-- 'wagebooklaw24.TaxSteps', WHERE WHAT IT READS IS OF BULK AT MOST 1048576: true; the input reads as it did. -/
def taxStepsUptoRow : OpenClaim := { program := "ytkpfjabeppdjlaa", sum := "9e011ed5964cfcf817dec99cf566c727723c757f88a6b36a47fe9466f1e8aa5d", func := "wagebook/wagebooklaw24.TaxSteps", spec := "taxSteps", unfollowed := true, recurses := true, apart := false, narrowed := true }
def TaxStepsUptoSaid : Prop := taxStepsUptoRow.holds Try.pinned (OpenSpec.upto taxStepsSpec)

/-- 'wagebooklaw24.TaxRises', WHERE WHAT IT READS IS OF BULK AT MOST 1048576: true; the input reads as it did. -/
def taxRisesUptoRow : OpenClaim := { program := "ytkpfjabeppdjlaa", sum := "9e011ed5964cfcf817dec99cf566c727723c757f88a6b36a47fe9466f1e8aa5d", func := "wagebook/wagebooklaw24.TaxRises", spec := "taxRises", unfollowed := true, recurses := true, apart := false, narrowed := true }
def TaxRisesUptoSaid : Prop := taxRisesUptoRow.holds Try.pinned (OpenSpec.upto taxRisesSpec)

/-- 'wagebooklaw24.TaxCards', WHERE WHAT IT READS IS OF BULK AT MOST 1048576: true; the input reads as it did. -/
def taxCardsUptoRow : OpenClaim := { program := "ytkpfjabeppdjlaa", sum := "9e011ed5964cfcf817dec99cf566c727723c757f88a6b36a47fe9466f1e8aa5d", func := "wagebook/wagebooklaw24.TaxCards", spec := "taxCards", unfollowed := true, recurses := true, apart := false, narrowed := true }
def TaxCardsUptoSaid : Prop := taxCardsUptoRow.holds Try.pinned (OpenSpec.upto taxCardsSpec)

/-- 'wagebooklaw24.TaxEven', WHERE WHAT IT READS IS OF BULK AT MOST 1048576: true; the input reads as it did. -/
def taxEvenUptoRow : OpenClaim := { program := "ytkpfjabeppdjlaa", sum := "9e011ed5964cfcf817dec99cf566c727723c757f88a6b36a47fe9466f1e8aa5d", func := "wagebook/wagebooklaw24.TaxEven", spec := "taxEven", unfollowed := true, recurses := true, apart := false, narrowed := true }
def TaxEvenUptoSaid : Prop := taxEvenUptoRow.holds Try.pinned (OpenSpec.upto taxEvenSpec)

/-- 'wagebooklaw24.TaxDates', WHERE WHAT IT READS IS OF BULK AT MOST 1048576: true; the input reads as it did. -/
def taxDatesUptoRow : OpenClaim := { program := "ytkpfjabeppdjlaa", sum := "9e011ed5964cfcf817dec99cf566c727723c757f88a6b36a47fe9466f1e8aa5d", func := "wagebook/wagebooklaw24.TaxDates", spec := "taxDates", unfollowed := true, recurses := true, apart := false, narrowed := true }
def TaxDatesUptoSaid : Prop := taxDatesUptoRow.holds Try.pinned (OpenSpec.upto taxDatesSpec)

end Rows
end Go.Proofs.Ytkpfjabeppdjlaa
