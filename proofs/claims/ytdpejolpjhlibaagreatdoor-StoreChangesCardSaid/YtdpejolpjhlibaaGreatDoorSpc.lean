import Derived.Test.YtdpejolpjhlibaaGreatDoorPl9
import Derived.Test.YtdpejolpjhlibaaGreatDoorRgo
import Derived.Test.YtdpejolpjhlibaaGreatDoorSnS
import Derived.Test.YtdpejolpjhlibaaGreatDoorOp9
/- What the operations of StoreChanges' last region yield. -/
namespace Go.Proofs.YtdpejolpjhlibaaGreatDoor
open Go.RowKit Go.Sort

/-- A slice of known facts. -/
def SlV (L : List Kn) (v : Value) (w : World) : Prop := ∃ C cp, v = .slice C L.length cp ∧ SlK w C L
theorem SlV.below {L : List Kn} {v : Value} {w w' : World} (h : SlV L v w) (hb : Below w.heap.size w w') : SlV L v w' := by
  obtain ⟨C, cp, h1, h2⟩ := h
  exact ⟨C, cp, h1, h2.below hb⟩
structure Par where
  na : Int
  nb : Int
  sb : Nat
  tb : Nat
  A1 : Option Addr
  A2 : Option Addr
  M1 : Option Addr
  M2 : Option Addr
  c1 : Nat
  c2 : Nat
  d1 : Nat
  d2 : Nat
  nT : Nat
  nU : Nat
  ka : Nat
  kb : Nat
  ub : Nat
  La : List Kn
  Lb : List Kn
/-- What a slot holds. -/
def SPc (p : Par) (t : Nat) (v : Value) (w : World) : Prop := match t with
  | 2 | 67 | 84 | 74 | 91 => v = .int .i64 p.na
  | 3 | 70 | 87 | 77 | 94 => v = .int .i64 p.nb
  | 9 => v = .pointer (some ⟨p.sb, 0, none⟩)
  | 10 => v = .pointer (some ⟨p.tb, 0, none⟩)
  | 11 | 73 | 76 | 90 => v = .slice p.M1 p.nT p.d1
  | 12 | 93 => v = .slice p.M2 p.nU p.d2
  | 66 | 69 | 83 => v = .agg #[.slice p.A1 p.nT p.c1]
  | 86 => v = .agg #[.slice p.A2 p.nU p.c2]
  | 68 | 85 => v = .agg #[.slice p.A1 p.ka p.ka]
  | 71 => v = .agg #[.slice p.A1 p.kb p.kb]
  | 88 => v = .agg #[.slice p.A2 p.ub p.ub]
  | 75 | 92 => v = .slice p.M1 p.ka p.d1
  | 78 => v = .slice p.M1 p.kb p.d1
  | 95 => v = .slice p.M2 p.ub p.d2
  | 72 | 79 => SlV p.La v w
  | 89 | 96 => SlV p.Lb v w
  | 64 | 65 | 80 | 81 | 82 | 97 | 98 | 8 => v = .bool true
  | _ => True
theorem SPc.st (p : Par) : ∀ t v w w', SPc p t v w → Below w.heap.size w w' → SPc p t v w' := by
  intro t v w w' h hb
  unfold SPc at h
  split at h
  all_goals first
    | exact h
    | exact SlV.below h hb
    | (unfold SPc; split <;> first | trivial | (exfalso; simp_all))
theorem SPc.free (p : Par) (t : Nat) (v : Value) (w : World) (h : t ∉ [2, 3, 9, 10, 11, 12, 66, 67, 68, 69, 70, 71, 72, 73, 74, 75, 76, 77, 78, 79, 80, 81, 82, 83, 84, 85, 86, 87, 88, 89, 90, 91, 92, 93, 94, 95, 96, 97, 98, 64, 65, 8]) : SPc p t v w := by
  unfold SPc
  split
  all_goals first | trivial | (exfalso; exact h (by simp))
theorem ops_all {l : List Oper} {q : Oper → Prop} (h : ∀ o ∈ l, q o) : ∀ (i : Nat) (o : Oper), l.toArray[i]? = some o → q o := fun i o ho => h o (by
  have := Array.mem_of_getElem? ho
  simpa using this)
end Go.Proofs.YtdpejolpjhlibaaGreatDoor
