/- Merged from: Lw1 Lw2. -/
import Derived.Test.YtgheloooibafcaaGreatDoorChgd
import Derived.Deep.RegionHeld3
/- The document's example, walked. -/
namespace Go.Proofs.YtgheloooibafcaaGreatDoor
open Go.RowKit Go.Sort

def exA : Fa := ⟨0, 1, 1, 19723, 0, ⟨#[]⟩, 1, ⟨#[]⟩⟩
def exB : Fa := ⟨0, 2, 1, 19723, 0, ⟨#[]⟩, 1, ⟨#[]⟩⟩
theorem fitA : Fit exA := ⟨by decide, by decide, by decide, by decide, by decide, by decide, by decide, by decide⟩
theorem fitB : Fit exB := ⟨by decide, by decide, by decide, by decide, by decide, by decide, by decide, by decide⟩
theorem fitC : Fit (canF 1) := ⟨by decide, by decide, by decide, by decide, by decide, by decide, by decide, by decide⟩
theorem exImp : impL [] [] 0 [exA, exB] = ([exA, exB], 0, 0) := by
  have hA : addL [] exA = ([exA], 0) := by
    unfold addL
    rw [if_neg (by decide), show chkF exA = 0 by decide, if_neg (by decide), show placeI [] exA.id = -1 by decide, if_neg (by decide), show canE [] exA = 0 by decide, if_neg (by decide)]
    rfl
  have hB : addL [exA] exB = ([exA, exB], 0) := by
    unfold addL
    rw [if_neg (by decide), show chkF exB = 0 by decide, if_neg (by decide), show placeI [exA] exB.id = -1 by decide, if_neg (by decide), show canE [exA] exB = 0 by decide, if_neg (by decide)]
    rfl
  rw [impL_add [] [] 0 exA [exB] (by decide) hA, if_neg (by decide), impL_add [] [exA] 0 exB [] (by decide) hB, if_neg (by decide)]
  unfold impL
  rfl
theorem exAdd : addL [exA, exB] (canF 1) = ([exA, exB, canF 1], 0) := by
  unfold addL
  rw [if_neg (by decide), show chkF (canF 1) = 0 by decide, if_neg (by decide), show placeI [exA, exB] (canF 1).id = -1 by decide, if_neg (by decide), show canE [exA, exB] (canF 1) = 0 by decide, if_neg (by decide)]
  rfl
theorem exF2 : chosen (ofPK 1 1) [exA, exB] 2 = [(1, exA)] := by
  rw [chosen_succ (L := [exA, exB]) (k := 1) (f := exB) _ rfl, chosen_succ (L := [exA, exB]) (k := 0) (f := exA) _ rfl, chosen_zero]
  rw [if_neg (by decide), if_pos (by decide), if_neg (by decide), if_neg (by decide)]
  rfl
theorem exF3 : chosen (ofPK 1 1) [exA, exB, canF 1] 3 = [] := by
  rw [chosen_succ (L := [exA, exB, canF 1]) (k := 2) (f := canF 1) _ rfl, chosen_succ (L := [exA, exB, canF 1]) (k := 1) (f := exB) _ rfl, chosen_succ (L := [exA, exB, canF 1]) (k := 0) (f := exA) _ rfl, chosen_zero]
  rw [if_pos (by decide), if_neg (by decide), if_neg (by decide), if_neg (by decide), if_neg (by decide)]
  rfl
theorem exG2 : forceL [exA, exB] = [(1, exA), (2, exB)] := by
  show chosen notCancel [exA, exB] 2 = _
  rw [chosen_succ (L := [exA, exB]) (k := 1) (f := exB) _ rfl, chosen_succ (L := [exA, exB]) (k := 0) (f := exA) _ rfl, chosen_zero]
  rw [if_neg (by decide), if_pos (by decide), if_neg (by decide), if_pos (by decide)]
  rfl
theorem exG3 : forceL [exA, exB, canF 1] = [(2, exB)] := by
  show chosen notCancel [exA, exB, canF 1] 3 = _
  rw [chosen_succ (L := [exA, exB, canF 1]) (k := 2) (f := canF 1) _ rfl, chosen_succ (L := [exA, exB, canF 1]) (k := 1) (f := exB) _ rfl, chosen_succ (L := [exA, exB, canF 1]) (k := 0) (f := exA) _ rfl, chosen_zero]
  rw [if_pos (by decide), if_neg (by decide), if_pos (by decide), if_neg (by decide), if_neg (by decide)]
  rfl
theorem exCh : bothL (forceL [exA, exB]) (forceL [exA, exB, canF 1]) = [(1, exA)] := by
  rw [exG2, exG3]
  have fa : FitK (1, exA) := ⟨by decide, fitA⟩
  have fb : FitK (2, exB) := ⟨by decide, fitB⟩
  have h1 : ¬ kbs (1, exA) = kbs (2, exB) := fun h => by
    have := congrArg Prod.fst (kbs_inj fa fb h)
    revert this; decide
  have h2 : butL [(1, exA), (2, exB)] [(2, exB)] = [(1, exA)] := by
    unfold butL
    simp [h1]
  have h3 : butL [(2, exB)] [(1, exA), (2, exB)] = [] := by
    unfold butL
    simp
  unfold bothL
  rw [h2, h3]; rfl
theorem exCh2 : changedL [exA, exB] [exA, exB, canF 1] = [(1, exA)] := by
  unfold changedL
  rw [exCh]
  exact ss_one _
end Go.Proofs.YtgheloooibafcaaGreatDoor

/- The document's example, walked: awake() is true. -/
namespace Go.Proofs.YtgheloooibafcaaGreatDoor
open Go.RowKit Go.Sort

/-- A store in a variable. -/
def StV (sb : Nat) (L : List Fa) (W : World) : Prop := ∃ A cap, Bk sb 27 #[.slice A L.length cap] W ∧ L.length ≤ cap ∧ SlF W A L
/-- A slice of two facts, made anew. -/
theorem two_new (f g : Fa) (w : World) : SlF (w.alloc (.cells #[.int .u32 f.id, .int .u32 f.pe, .int .i64 f.ki, .int .i64 f.fr, .int .i64 f.to, .string f.co, .int .i64 f.nu, .string f.tx, .int .u32 g.id, .int .u32 g.pe, .int .i64 g.ki, .int .i64 g.fr, .int .i64 g.to, .string g.co, .int .i64 g.nu, .string g.tx] 39)) (some ⟨w.heap.size, 0, none⟩) [f, g] := by
  intro _
  refine ⟨w.heap.size, 0, rfl, size_new _ _, fun i x hx j u hu => ?_⟩
  rw [(Bk.new w 39 _).cell, Nat.zero_add]
  have hj : j < 8 := by have := (List.getElem?_eq_some_iff.1 hu).1; rwa [encF_len] at this
  have hi : i < 2 := by have := (List.getElem?_eq_some_iff.1 hx).1; simpa using this
  have hi2 : i = 0 ∨ i = 1 := by omega
  have hj2 : j = 0 ∨ j = 1 ∨ j = 2 ∨ j = 3 ∨ j = 4 ∨ j = 5 ∨ j = 6 ∨ j = 7 := by omega
  rcases hi2 with rfl | rfl
  · cases hx
    rcases hj2 with rfl | rfl | rfl | rfl | rfl | rfl | rfl | rfl <;> exact hu
  · cases hx
    rcases hj2 with rfl | rfl | rfl | rfl | rfl | rfl | rfl | rfl <;> exact hu
theorem StV.below {sb : Nat} {L : List Fa} {W W' : World} (h : StV sb L W) (hb : Below W.heap.size W W') : StV sb L W' := by
  obtain ⟨A, cap, h1, h2, h3⟩ := h
  exact ⟨A, cap, (hb.block sb h1.lt).trans h1, h2, h3.below hb⟩
theorem Sl.take_ {α : Type} {enc : α → List Value} {sz B : Nat} {w : World} {A : Option Addr} {L : List α} (h : Sl enc sz w B A L) (k : Nat) : Sl enc sz w B A (L.take k) := fun hl => by
  obtain ⟨b, off, e, hb, hc⟩ := h (fun h0 => hl (by rw [h0, List.take_nil]))
  refine ⟨b, off, e, hb, fun i x hx => ?_⟩
  rw [List.getElem?_take] at hx
  split at hx
  · exact hc i x hx
  · cases hx
/-- Eight cells of a fact in an own block. -/
theorem bk8 {w : World} {g : Nat} {f : Fa} (h : Bk g 39 (FA f) w) : At8 w g 0 f :=
  ⟨h.cell 0, h.cell 1, h.cell 2, h.cell 3, h.cell 4, h.cell 5, h.cell 6, h.cell 7⟩
end Go.Proofs.YtgheloooibafcaaGreatDoor
