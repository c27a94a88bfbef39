/- A region that draws its order, whose callees make and write memory of their own: whatever lies below stays. -/
import Derived.Test.YtkbpdbfldijeeaaDoorGrow
namespace Go.Proofs.YtkbpdbfldijeeaaDoor
open Go.RowKit Go.Sort

/-- A world in which all that lay in w lies as it did. -/
structure BW (w : World) where
  val : World
  le : Below w.heap.size w val
instance bwNonempty (w : World) : Inhabited (BW w) := ⟨⟨w, Below.refl _ _⟩⟩
theorem wp_region_quiet_below {P : Program} {id : Nat} {Q : Exit → Act → World → Prop} {a : Act} {w : World} {l : List Oper} (hm : P.follows .mixedOrders = true) (hB : Region.lexB .any l.toArray = true)
    (h : wpQuiet P l.toArray (fun w' => ∃ p : BW w, w' = p.val) (fun a' => ∀ w', (∃ p : BW w, w' = p.val) → Q .normal a' w') l a) : (Code.region id l.toArray true).wp P Q a w :=
  wp_region_quiet (C := fun w' => ∃ p : BW w, w' = p.val) hm hB ⟨⟨w.drew, (Grows.of_drew w).below⟩, rfl⟩ (by simpa using h)
theorem bwTrans {a b c : World} {B C : Nat} (h : Below B a b) (k : Below C b c) (hC : B ≤ C) : Below B a c := ⟨k.os.trans h.os, k.tape.trans h.tape, k.output.trans h.output, Nat.le_trans h.size k.size, fun i hi => (k.block i (Nat.lt_of_lt_of_le hi hC)).trans (h.block i hi)⟩
/-- A contract that leaves what lay, met in such a region. -/
theorem below_any {P : Program} {f : FuncId} {args : Array Value} {w : World} {p : BW w} {v : Value}
    (h : Calls P f args p.val fun e w' => e = .returned v ∧ Below p.val.heap.size p.val w') : Calls P f args p.val fun e w'' => e = .returned v ∧ ∃ q : BW w, w'' = q.val :=
  h.mono fun _ w'' ⟨he, hb⟩ => ⟨he, ⟨w'', bwTrans p.le hb p.le.size⟩, rfl⟩
theorem below_grows {P : Program} {f : FuncId} {args : Array Value} {w : World} {p : BW w} {v : Value}
    (h : Calls P f args p.val fun e w' => e = .returned v ∧ Grows p.val w') : Calls P f args p.val fun e w'' => e = .returned v ∧ ∃ q : BW w, w'' = q.val :=
  below_any (h.mono fun _ _ ⟨he, hg⟩ => ⟨he, hg.below⟩)
theorem below_same {P : Program} {f : FuncId} {args : Array Value} {w : World} {p : BW w} {v : Value}
    (h : Calls P f args p.val fun e w' => e = .returned v ∧ p.val = w') : Calls P f args p.val fun e w'' => e = .returned v ∧ ∃ q : BW w, w'' = q.val :=
  h.mono fun _ _ ⟨he, hg⟩ => ⟨he, p, hg.symm⟩
/-- A cell in every such world. -/
theorem cellB {w : World} {k o : Nat} {v : Value} (hk : k < w.heap.size) (h : w.cell? ⟨k, o, none⟩ = some v) : ∀ p : BW w, p.val.cell? ⟨k, o, none⟩ = some v := fun p => (p.le.cell (p := ⟨k, o, none⟩) hk).trans h
end Go.Proofs.YtkbpdbfldijeeaaDoor
