/- A world that has only grown: draws, and new blocks behind the elder ones. -/
import Derived.Deep.QuietTactic
import Derived.BigQuiet
import Derived.WalkKit
import Derived.Below
import Derived.Laws.AppendOwn
import Derived.Shelf.SlSortCmp.QuietGrown
import Derived.Lib.Hide
namespace Go.Proofs.YtmngghglcgmkeaaGreatDoor
open Go.RowKit Go.Sort

/-- From w to w': draws, and new blocks. -/
def Grows (w w' : World) : Prop := ∃ q os, w' = Sort.grow (w.drewN q) os
theorem Grows.refl (w : World) : Grows w w := ⟨0, #[], by rw [grow_empty]; rfl⟩
theorem Grows.trans {a b c : World} (h : Grows a b) (k : Grows b c) : Grows a c := by
  obtain ⟨q, os, rfl⟩ := h
  obtain ⟨q', os', rfl⟩ := k
  exact ⟨q + q', os ++ os', by show Sort.grow (Sort.grow ((a.drewN q).drewN q') os) os' = _; rw [grow_grow, World.drewN_drewN]⟩
theorem Grows.of_alloc (w : World) (o : Obj) : Grows w (w.alloc o) := ⟨0, #[o], alloc_eq_grow w o⟩
theorem Grows.of_drewN (w : World) (n : Nat) : Grows w (w.drewN n) := ⟨n, #[], (grow_empty _).symm⟩
theorem Grows.of_drew (w : World) : Grows w w.drew := ⟨1, #[], (grow_empty _).symm⟩
theorem Grows.of_grow (w : World) (n : Nat) (os : Array Obj) : Grows w (Sort.grow (w.drewN n) os) := ⟨n, os, rfl⟩
theorem Grows.alloc {a b : World} (h : Grows a b) (o : Obj) : Grows a (b.alloc o) := h.trans (.of_alloc b o)
theorem Grows.drewN {a b : World} (h : Grows a b) (n : Nat) : Grows a (b.drewN n) := h.trans (.of_drewN b n)
theorem Grows.drew {a b : World} (h : Grows a b) : Grows a b.drew := h.trans (.of_drew b)
theorem Grows.grow {a b : World} (h : Grows a b) (n : Nat) (os : Array Obj) : Grows a (Sort.grow (b.drewN n) os) := h.trans (.of_grow b n os)
theorem Grows.size {a b : World} (h : Grows a b) : a.heap.size ≤ b.heap.size := by
  obtain ⟨q, os, rfl⟩ := h
  rw [size_grow]; exact Nat.le_add_right _ _
theorem Grows.setCell {a b : World} (h : Grows a b) {p : Addr} (hp : a.heap.size ≤ p.block) (v : Value) : Grows a (b.setCell p v) := by
  obtain ⟨q, os, rfl⟩ := h
  have e : ∀ f : Obj → Obj, ({ (Sort.grow (a.drewN q) os) with heap := (Sort.grow (a.drewN q) os).heap.modify p.block f } : World) = Sort.grow (a.drewN q) (os.modify (p.block - a.heap.size) f) := fun f => by
    unfold Sort.grow
    simp only
    rw [modify_append_right _ _ _ _ (show (a.drewN q).heap.size ≤ p.block from hp)]
    rfl
  exact ⟨q, _, e _⟩
theorem Grows.block {a b : World} (h : Grows a b) {i : Nat} (hi : i < a.heap.size) : b.heap[i]? = a.heap[i]? := by
  obtain ⟨q, os, rfl⟩ := h
  exact heap_grow_old _ _ hi
theorem Grows.below {a b : World} (h : Grows a b) : Below a.heap.size a b := by
  obtain ⟨q, os, rfl⟩ := h
  exact ⟨rfl, rfl, rfl, by rw [size_grow]; exact Nat.le_add_right _ _, fun i hi => heap_grow_old _ _ hi⟩
theorem Grows.grownBy {a b : World} (h : Grows a b) (row : Option Nat) : a.grownBy b row :=
  ⟨h.below.os, h.below.tape, h.below.output, h.size, fun _ hi _ => h.block hi⟩
theorem Grows.cells {a b : World} (h : Grows a b) : (∀ k o, k < a.heap.size → b.cell? ⟨k, o, none⟩ = a.cell? ⟨k, o, none⟩) ∧ (∀ k o, k < a.heap.size → b.frozen? ⟨k, o, none⟩ = a.frozen? ⟨k, o, none⟩) := by
  have hb := h.below
  exact ⟨fun k o hk => hb.cell (p := ⟨k, o, none⟩) hk, fun k o hk => hb.frozen (p := ⟨k, o, none⟩) hk⟩
theorem Grows.cell {a b : World} (h : Grows a b) {k o : Nat} {v : Value} (hk : k < a.heap.size) (hc : a.cell? ⟨k, o, none⟩ = some v) : b.cell? ⟨k, o, none⟩ = some v := by
  rw [h.cells.1 k o hk, hc]
/-- A contract that only grows, met in a region. -/
theorem grown_any {P : Program} {f : FuncId} {args : Array Value} {w : World} {n : Nat} {os : Array Obj} {v : Value}
    (h : Calls P f args (Sort.grow (w.drewN n) os) fun e w' => e = .returned v ∧ Grows (Sort.grow (w.drewN n) os) w') : Calls P f args (Sort.grow (w.drewN n) os) fun e w'' => e = .returned v ∧ ∃ p : GrownBy, w'' = Sort.grow (w.drewN p.n) p.os :=
  Calls.grown_of (h.mono fun _ _ ⟨he, q, os', hq⟩ => ⟨he, q, os', hq⟩)
/-- One that leaves the world alone. -/
theorem grown_same {P : Program} {f : FuncId} {args : Array Value} {w : World} {n : Nat} {os : Array Obj} {v : Value}
    (h : Calls P f args (Sort.grow (w.drewN n) os) fun e w' => e = .returned v ∧ Sort.grow (w.drewN n) os = w') : Calls P f args (Sort.grow (w.drewN n) os) fun e w'' => e = .returned v ∧ ∃ p : GrownBy, w'' = Sort.grow (w.drewN p.n) p.os :=
  h.mono fun _ _ ⟨he, hq⟩ => ⟨he, ⟨n, os⟩, hq.symm⟩
theorem new_block (w : World) (o : Obj) : (w.alloc o).heap[w.heap.size]? = some o := by
  rw [alloc_eq_grow]; unfold Sort.grow; simp
theorem new_cell (w : World) (cs : Array Value) (T : TypeId) (f : Nat × Nat) {o : Nat} {v : Value} (h : cs[o]? = some v) : (w.alloc (.cells cs T f)).cell? ⟨w.heap.size, o, none⟩ = some v := by
  unfold World.cell?
  simp only [new_block]
  exact h
theorem new_frozen (w : World) (cs : Array Value) (T : TypeId) (o : Nat) : (w.alloc (.cells cs T (0, 0))).frozen? ⟨w.heap.size, o, none⟩ = false := by
  unfold World.frozen?
  simp only [new_block]
  simp
theorem size_new (w : World) (o : Obj) : w.heap.size < (w.alloc o).heap.size := by simp
/-- A cell in every world of the class. -/
theorem cellN {w : World} {k o : Nat} {v : Value} (hk : k < w.heap.size) (h : w.cell? ⟨k, o, none⟩ = some v) : ∀ n os, (Sort.grow (w.drewN n) os).cell? ⟨k, o, none⟩ = some v := fun n os => cell_grown (a := ⟨k, o, none⟩) hk h n os
theorem ret_i {k : IntKind} {a b : Int} (h : a = b) : Ending.returned (.int k a) = .returned (.int k b) := by rw [h]
theorem ret_b {a b : Bool} (h : a = b) : Ending.returned (.bool a) = .returned (.bool b) := by rw [h]
end Go.Proofs.YtmngghglcgmkeaaGreatDoor
