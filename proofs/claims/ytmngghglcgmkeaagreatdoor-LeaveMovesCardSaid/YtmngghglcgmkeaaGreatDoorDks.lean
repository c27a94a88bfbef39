/- Merged from: Aps Dk1 Dk2 Dr2. -/
import Derived.Test.YtmngghglcgmkeaaGreatDoorDys
import Derived.Lib.SliceRun
import Derived.BigQuiet
/- Many elements appended to a row of the call's own, out of a slice that reads as a list. -/
namespace Go.Proofs.YtmngghglcgmkeaaGreatDoor
open Go.RowKit Go.Sort

theorem rowOf_ex1 {α : Type} {enc : α → List Value} {k : Nat} (hk : ∀ x, (enc x).length = k) : ∀ (l : List α) (j : Nat) (u : Value), (rowOf enc l)[j]? = some u → ∃ i r x, j = i * k + r ∧ l[i]? = some x ∧ (enc x)[r]? = some u := by
  intro l
  induction l with
  | nil => intro j u h; simp [rowOf] at h
  | cons y l ih =>
    intro j u h
    have e : rowOf enc (y :: l) = enc y ++ rowOf enc l := rfl
    rw [e] at h
    by_cases hj : j < k
    · rw [List.getElem?_append_left (by rw [hk]; exact hj)] at h
      exact ⟨0, j, y, by omega, rfl, h⟩
    · rw [List.getElem?_append_right (by rw [hk]; omega), hk] at h
      obtain ⟨i, r, x, h1, h2, h3⟩ := ih _ _ h
      exact ⟨i + 1, r, x, by rw [Nat.add_mul]; omega, by simpa using h2, h3⟩
/-- The cells of a slice's elements, one by one. -/
theorem Sl.newsN {α : Type} {enc : α → List Value} {k : Nat} (hk : ∀ x, (enc x).length = k) {w : World} {b off : Nat} {S : List α}
    (h : ∀ i x, S[i]? = some x → ∀ j u, (enc x)[j]? = some u → w.cell? ⟨b, off + i * k + j, none⟩ = some u) : ∀ j u, (rowOf enc S)[j]? = some u → w.cell? ⟨b, off + j, none⟩ = some u := fun j u hu => by
  obtain ⟨i, r, x, rfl, h1, h2⟩ := rowOf_ex1 hk S j u hu
  rw [← Nat.add_assoc]
  exact h i x h1 r u h2

theorem wpList_append_rowsN {α : Type} {enc : α → List Value} {k : Nat} {P : Program} {ops : Array Oper} {rest : List Oper} {o : Oper} {a : Act} {w : World} {Q : Exit → Act → World → Prop}
    (hk : ∀ x, (enc x).length = k) (h1 : ∀ x, ∀ u ∈ enc x, u.oneCell' = true) (hgd : o.guard = none) (s x : Operand) (t : TypeId)
    (ho : o.op = .call { callee := .builtin .append, args := #[s, x], argTypes := #[t, t] })
    (base : Nat) (e : TypeId) (z : Value) (bytes : Nat) (ht : P.underlying t = some (.slice e)) (hi : (P.info? e).map (fun i => (i.zero, i.size, i.bytes)) = some (some z, k, bytes)) (hzs : z.cells.size = k) (hsz : 0 < k)
    (v : Value) (l S : List α) (hs : a.eval s = v) (hown : Own enc k e base v l w)
    (b off m c : Nat) (hx : a.eval x = .slice (some ⟨b, off, none⟩) m c) (hm : S.length = m) (hnews : ∀ j u, (rowOf enc S)[j]? = some u → w.cell? ⟨b, off + j, none⟩ = some u)
    (hn : l.length + m ≤ 1000000000) (hb : bytes ≤ 1000) (hbase : base ≤ w.heap.size)
    (h : ∀ v' w', Own enc k e base v' (l ++ S) w' → w.grownBy w' v.ownBlock → wpList P ops Q rest (a.put o.dst v') w') : wpList P ops Q (o :: rest) a w := by
  obtain ⟨i, hi1, hz, hsize, hby⟩ := info_parts hi
  subst hm
  refine wpList_append_own w hgd s x t ho base e i z k bytes ht hi1 hz hsize hby hzs hsz v l.length (rowOf enc l) hs hown ⟨b, off, none⟩ S.length c (rowOf enc S) hx (by rw [rowOf_length hk]) (fun j u hu => ?_) (fun u hu => ?_) (by simp only [maxLen]; omega) ?_ hbase (fun v' w' h2 h3 _ => h v' w' ?_ h3)
  · have := hnews j u hu
    unfold Addr.add
    split
    · rename_i h0; subst h0; simpa using this
    · simpa using this
  · obtain ⟨x, _, hx⟩ := List.mem_flatMap.1 hu
    exact h1 x u hx
  · exact Nat.le_trans (Nat.mul_le_mul hn hb) (by omega)
  · unfold Own
    rw [List.length_append, rowOf_append]; exact h2
end Go.Proofs.YtmngghglcgmkeaaGreatDoor

namespace Go.Proofs.YtmngghglcgmkeaaGreatDoor
open Go.RowKit Go.Sort

/-- A line. -/
abbrev Ln := Int × ByteArray × Int
def encL (x : Ln) : List Value := [.int .i64 x.1, .string x.2.1, .int .i64 x.2.2]
theorem encL_len (x : Ln) : (encL x).length = 3 := rfl
theorem encL_one (x : Ln) : ∀ u ∈ encL x, u.oneCell' = true := by
  intro u hu
  simp only [encL, List.mem_cons, List.not_mem_nil, or_false] at hu
  rcases hu with rfl | rfl | rfl <;> rfl
abbrev SlL (w : World) (A : Option Addr) (L : List Ln) : Prop := Sl encL 3 w w.heap.size A L
/-- A slip, and the lines that its slice holds. -/
structure Sz where
  y : Int
  i : Int
  A : Option Addr
  c : Nat
  ls : List Ln
def encZ (z : Sz) : List Value := [.int .i64 z.y, .int .i64 z.i, .slice z.A z.ls.length z.c]
theorem encZ_len (z : Sz) : (encZ z).length = 3 := rfl
theorem encZ_one (z : Sz) : ∀ u ∈ encZ z, u.oneCell' = true := by
  intro u hu
  simp only [encZ, List.mem_cons, List.not_mem_nil, or_false] at hu
  rcases hu with rfl | rfl | rfl <;> rfl
/-- Slips in a slice. -/
def SlZ (w : World) (A : Option Addr) (Z : List Sz) : Prop := Sl encZ 3 w w.heap.size A Z ∧ ∀ z ∈ Z, SlL w z.A z.ls
theorem sl_bel {α : Type} {enc : α → List Value} {k : Nat} {w w' : World} {A : Option Addr} {L : List α} (h : Sl enc k w w.heap.size A L) (hb : Below w.heap.size w w') : Sl enc k w' w'.heap.size A L := fun hl => by
  obtain ⟨b, off, e, hlt, hc⟩ := h hl
  exact ⟨b, off, e, Nat.lt_of_lt_of_le hlt hb.size, fun i x hx j u hu => (hb.cell (p := ⟨b, _, none⟩) hlt).trans (hc i x hx j u hu)⟩
theorem SlZ.below {w w' : World} {A : Option Addr} {Z : List Sz} (h : SlZ w A Z) (hb : Below w.heap.size w w') : SlZ w' A Z := ⟨sl_bel h.1 hb, fun z hz => sl_bel (h.2 z hz) hb⟩
/-- What a slip tells. -/
def Sz.key (z : Sz) : Int × Int × List Ln := (z.y, z.i, z.ls)
def aheadK (y i : Int) (k : Int × Int × List Ln) : Bool := decide (k.1 < y ∨ (k.1 = y ∧ k.2.1 < i))
end Go.Proofs.YtmngghglcgmkeaaGreatDoor

namespace Go.Proofs.YtmngghglcgmkeaaGreatDoor
open Go.RowKit Go.Sort

theorem ahead_take {y i : Int} {Z : List Sz} {k : Nat} {z : Sz} (h : Z[k]? = some z) : ((Z.take (k + 1)).map Sz.key).filter (aheadK y i) = ((Z.take k).map Sz.key).filter (aheadK y i) ++ (if aheadK y i z.key = true then [z.key] else []) := by
  rw [List.take_add_one, h, List.map_append, List.filter_append]
  congr 1
  by_cases h0 : aheadK y i z.key = true <;> simp [h0]
/-- Room for each slip's lines. -/
def RoomZ (Z : List Sz) : Prop := ∀ z ∈ Z, z.ls.length * 32 ≤ 140737488355328
theorem room_max {n : Nat} (h : n * 32 ≤ 140737488355328) : n ≤ maxLen := by simp only [maxLen]; omega
theorem own_bk {α : Type} {enc : α → List Value} {k B : Nat} {e : TypeId} {v : Value} {l : List α} {w : World} (h : Own enc k e B v l w) {g : Nat} (hg : v.ownBlock = some g) : ∃ cur, Bk g e cur w := by
  rcases h.2 with ⟨rfl, _⟩ | ⟨g', cap, cur, rfl, _, hh, _⟩
  · simp [Value.ownBlock] at hg
  · have : g' = g := by simpa [Value.ownBlock] using hg
    subst this
    exact ⟨cur, hh⟩
theorem own_apart {α β : Type} {enc : α → List Value} {enc2 : β → List Value} {k k2 B B2 : Nat} {e e2 : TypeId} {v v2 : Value} {l : List α} {l2 : List β} {w : World} (h : Own enc k e B v l w) (h2 : Own enc2 k2 e2 B2 v2 l2 w) (hne : e2 ≠ e) : v.ownBlock = none ∨ v.ownBlock ≠ v2.ownBlock := by
  cases hv : v.ownBlock with
  | none => exact .inl rfl
  | some g =>
    obtain ⟨cur, hk⟩ := own_bk h hv
    exact .inr (h2.ne_ hk hne)
theorem key_len {Z : List Sz} {K : List (Int × Int × List Ln)} (h : Z.map Sz.key = K) : Z.length = K.length := by rw [← h, List.length_map]
end Go.Proofs.YtmngghglcgmkeaaGreatDoor

namespace Go.Proofs.YtmngghglcgmkeaaGreatDoor
open Go.RowKit Go.Sort

theorem aheadZ_take {y i : Int} {Z : List Sz} {k : Nat} {z : Sz} (h : Z[k]? = some z) : ((Z.take (k + 1)).filter fun z => aheadK y i z.key) = ((Z.take k).filter fun z => aheadK y i z.key) ++ (if aheadK y i z.key = true then [z] else []) := by
  rw [List.take_add_one, h, List.filter_append]
  congr 1
  by_cases h0 : aheadK y i z.key = true <;> simp [h0]
end Go.Proofs.YtmngghglcgmkeaaGreatDoor
