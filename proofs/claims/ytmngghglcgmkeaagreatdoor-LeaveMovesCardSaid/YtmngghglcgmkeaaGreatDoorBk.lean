/- A block that is known whole; the folding of an account in plain numbers. -/
import Derived.Test.YtmngghglcgmkeaaGreatDoorGrow
import Derived.Laws.Rows
namespace Go.Proofs.YtmngghglcgmkeaaGreatDoor
open Go.RowKit Go.Sort

/-- Block g is just these cells. -/
def Bk (g : Nat) (t : TypeId) (cs : Array Value) (w : World) : Prop := w.heap[g]? = some (.cells cs t (0, 0))
section
variable {w w' : World} {g : Nat} {t : TypeId} {cs : Array Value}
theorem Bk.lt (h : Bk g t cs w) : g < w.heap.size := (Array.getElem?_eq_some_iff.1 h).1
theorem Bk.cell (h : Bk g t cs w) (i : Nat) : w.cell? ⟨g, i, none⟩ = cs[i]? := by
  unfold Bk at h; simp [World.cell?, h]
theorem Bk.frozen (h : Bk g t cs w) (i : Nat) : w.frozen? ⟨g, i, none⟩ = false := by
  unfold Bk at h; simp [World.frozen?, h]
theorem Bk.new (w : World) (t : TypeId) (cs : Array Value) : Bk w.heap.size t cs (w.alloc (.cells cs t)) := new_block w _
theorem Bk.grownBy (h : Bk g t cs w) {r : Option Nat} (k : w.grownBy w' r) (hr : some g ≠ r) : Bk g t cs w' := (k.block g h.lt hr).trans h
theorem Bk.grows (h : Bk g t cs w) (k : Grows w w') : Bk g t cs w' := (k.block h.lt).trans h
theorem Bk.drew (h : Bk g t cs w) : Bk g t cs w.drew := h
theorem Bk.drewN (h : Bk g t cs w) (n : Nat) : Bk g t cs (w.drewN n) := h
theorem Bk.set_ (h : Bk g t cs w) (i : Nat) (u : Value) : Bk g t (cs.setIfInBounds i u) (w.setCell ⟨g, i, none⟩ u) := by
  unfold Bk at h ⊢
  simp [World.setCell, Array.getElem?_modify, h]
theorem Bk.ne_ {g' : Nat} {t' : TypeId} {cs' : Array Value} (h : Bk g t cs w) (h' : Bk g' t' cs' w) (hne : t ≠ t') : g ≠ g' := by
  rintro rfl
  unfold Bk at h h'
  rw [h] at h'
  injection h' with h'
  injection h' with _ ht
  exact hne ht
end
theorem gSet {g : Nat} (w : World) (o : Nat) (v : Value) : w.grownBy (w.setCell ⟨g, o, none⟩ v) (some g) :=
  ⟨rfl, rfl, rfl, by simp [World.setCell], fun k _ hk => Below.heap_setCell _ _ _ _ (by simpa using hk)⟩

/-- What a folding holds but for its plan. -/
structure Fo where
  g : Int
  t : Int
  e : Int
  l : Int
  fr : Int
  cr : Int
def loseV (s : Fo) : Fo := { s with e := s.e + s.cr, cr := 0 }
def keepV (ca : Int) (s : Fo) : Fo := if 0 < s.fr then { s with e := s.e + (s.fr - min s.fr ca), fr := 0, cr := min s.fr ca } else s
def turnV (ca ex : Int) (s : Fo) : Fo := if ex = 0 then loseV (keepV ca (loseV s)) else keepV ca (loseV s)
def moveV (gr tk : Int) (s : Fo) : Fo := { s with g := s.g + gr, t := s.t + tk, cr := s.cr - min s.cr tk, fr := s.fr + (gr - (tk - min s.cr tk)) }
/-- What always holds of one, n moves on. -/
structure Inv (n : Nat) (s : Fo) : Prop where
  g0 : 0 ≤ s.g
  g1 : s.g ≤ 1000000 * n
  t0 : 0 ≤ s.t
  t1 : s.t ≤ 1000000 * n
  e0 : 0 ≤ s.e
  c0 : 0 ≤ s.cr
  f0 : -s.t ≤ s.fr
  sum : s.g = s.t + s.e + s.fr + s.cr
theorem Inv.lose {n : Nat} {s : Fo} (h : Inv n s) : Inv n (loseV s) := by
  obtain ⟨a, b, c, d, e, f, i, j⟩ := h
  constructor <;> simp only [loseV] <;> omega
theorem Inv.keep {n : Nat} {s : Fo} {ca : Int} (h : Inv n s) (h0 : 0 ≤ ca) (hc : s.cr = 0) : Inv n (keepV ca s) := by
  unfold keepV
  split
  · obtain ⟨a, b, c, d, e, f, i, j⟩ := h
    constructor <;> simp only <;> omega
  · exact h
theorem Inv.turn {n : Nat} {s : Fo} {ca ex : Int} (h : Inv n s) (h0 : 0 ≤ ca) : Inv n (turnV ca ex s) := by
  unfold turnV
  have := (h.lose).keep h0 rfl
  split
  · exact this.lose
  · exact this
theorem Inv.move {n : Nat} {s : Fo} {gr tk : Int} (h : Inv n s) (h1 : 0 ≤ gr) (h2 : gr ≤ 1000000) (h3 : 0 ≤ tk) (h4 : tk ≤ 1000000) : Inv (n + 1) (moveV gr tk s) := by
  obtain ⟨a, b, c, d, e, f, i, j⟩ := h
  constructor <;> simp only [moveV] <;> omega
theorem Inv.more {n m : Nat} {s : Fo} (h : Inv n s) (hm : n ≤ m) : Inv m s := by
  obtain ⟨a, b, c, d, e, f, i, j⟩ := h
  constructor <;> omega
theorem Inv.bd {n : Nat} {s : Fo} (h : Inv n s) : s.e ≤ 1000000 * n ∧ s.cr ≤ 2000000 * n ∧ s.fr ≤ 2000000 * n ∧ -(1000000 * n) ≤ s.fr ∧ s.fr + s.cr ≤ 1000000 * n ∧ -(1000000 * n) ≤ s.fr + s.cr := by
  obtain ⟨a, b, c, d, e, f, i, j⟩ := h
  omega
end Go.Proofs.YtmngghglcgmkeaaGreatDoor
