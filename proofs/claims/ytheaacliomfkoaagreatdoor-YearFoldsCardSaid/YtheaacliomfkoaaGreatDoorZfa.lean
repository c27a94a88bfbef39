/- Out of: Grow Bk Base. -/
import Derived.Test.YtheaacliomfkoaaGreatDoorProg
import Derived.Below
import Derived.BigQuiet
import Derived.Deep.Cut
import Derived.Deep.CutRange
import Derived.Deep.QuietTactic
import Derived.IntWalk
import Derived.Laws.AppendOwn
import Derived.Laws.CopyRow
import Derived.Laws.IdiomCopy
import Derived.Laws.IdiomStrings
import Derived.Laws.MakeOwn
import Derived.Laws.Rows
import Derived.Laws.Tables
import Derived.Lib.Hide
import Derived.Outline
import Derived.Shelf.SlSortCmp.QuietGrown
import Derived.WalkKit
import Derived.WalkLawsBesides
import Derived.WalkSpells
/- A world that has only grown: draws, and new blocks behind the elder ones. -/
namespace Go.Proofs.YtheaacliomfkoaaGreatDoor
open Go.RowKit Go.Sort

/-- From w to w': draws, and new blocks. -/
def Grows (w w' : World) : Prop := ∃ q os, w' = Sort.grow (w.drewN q) os
theorem Grows.trans {a b c : World} (h : Grows a b) (k : Grows b c) : Grows a c := by
  obtain ⟨q, os, rfl⟩ := h
  obtain ⟨q', os', rfl⟩ := k
  exact ⟨q + q', os ++ os', by show Sort.grow (Sort.grow ((a.drewN q).drewN q') os) os' = _; rw [grow_grow, World.drewN_drewN]⟩
theorem Grows.of_alloc (w : World) (o : Obj) : Grows w (w.alloc o) := ⟨0, #[o], alloc_eq_grow w o⟩
theorem Grows.of_drewN (w : World) (n : Nat) : Grows w (w.drewN n) := ⟨n, #[], (grow_empty _).symm⟩
theorem Grows.of_drew (w : World) : Grows w w.drew := ⟨1, #[], (grow_empty _).symm⟩
theorem Grows.of_grow (w : World) (n : Nat) (os : Array Obj) : Grows w (Sort.grow (w.drewN n) os) := ⟨n, os, rfl⟩
theorem Grows.alloc {a b : World} (h : Grows a b) (o : Obj) : Grows a (b.alloc o) := h.trans (.of_alloc b o)
theorem Grows.drew {a b : World} (h : Grows a b) : Grows a b.drew := h.trans (.of_drew b)
theorem Grows.size {a b : World} (h : Grows a b) : a.heap.size ≤ b.heap.size := by
  obtain ⟨q, os, rfl⟩ := h
  rw [size_grow]; exact Nat.le_add_right _ _
theorem Grows.block {a b : World} (h : Grows a b) {i : Nat} (hi : i < a.heap.size) : b.heap[i]? = a.heap[i]? := by
  obtain ⟨q, os, rfl⟩ := h
  exact heap_grow_old _ _ hi
theorem Grows.below {a b : World} (h : Grows a b) : Below a.heap.size a b := by
  obtain ⟨q, os, rfl⟩ := h
  exact ⟨rfl, rfl, rfl, by rw [size_grow]; exact Nat.le_add_right _ _, fun i hi => heap_grow_old _ _ hi⟩
theorem Grows.cells {a b : World} (h : Grows a b) : (∀ k o, k < a.heap.size → b.cell? ⟨k, o, none⟩ = a.cell? ⟨k, o, none⟩) ∧ (∀ k o, k < a.heap.size → b.frozen? ⟨k, o, none⟩ = a.frozen? ⟨k, o, none⟩) := by
  have hb := h.below
  exact ⟨fun k o hk => hb.cell (p := ⟨k, o, none⟩) hk, fun k o hk => hb.frozen (p := ⟨k, o, none⟩) hk⟩
theorem Grows.cell {a b : World} (h : Grows a b) {k o : Nat} {v : Value} (hk : k < a.heap.size) (hc : a.cell? ⟨k, o, none⟩ = some v) : b.cell? ⟨k, o, none⟩ = some v := by
  rw [h.cells.1 k o hk, hc]
/-- One that leaves the world alone. -/
theorem grown_same {P : Program} {f : FuncId} {args : Array Value} {w : World} {n : Nat} {os : Array Obj} {v : Value}
    (h : Calls P f args (Sort.grow (w.drewN n) os) fun e w' => e = .returned v ∧ Sort.grow (w.drewN n) os = w') : Calls P f args (Sort.grow (w.drewN n) os) fun e w'' => e = .returned v ∧ ∃ p : GrownBy, w'' = Sort.grow (w.drewN p.n) p.os :=
  h.mono fun _ _ ⟨he, hq⟩ => ⟨he, ⟨n, os⟩, hq.symm⟩
theorem new_block (w : World) (o : Obj) : (w.alloc o).heap[w.heap.size]? = some o := by
  rw [alloc_eq_grow]; unfold Sort.grow; simp
theorem new_cell (w : World) (cs : Array Value) (T : TypeId) (f : Nat × Nat) {o : Nat} {v : Value} (h : cs[o]? = some v) : (w.alloc (.cells cs T f)).cell? ⟨w.heap.size, o, none⟩ = some v := by
  unfold World.cell?
  simp only [new_block]
  exact h
theorem size_new (w : World) (o : Obj) : w.heap.size < (w.alloc o).heap.size := by simp
theorem ret_i {k : IntKind} {a b : Int} (h : a = b) : Ending.returned (.int k a) = .returned (.int k b) := by rw [h]
theorem ret_b {a b : Bool} (h : a = b) : Ending.returned (.bool a) = .returned (.bool b) := by rw [h]
end Go.Proofs.YtheaacliomfkoaaGreatDoor

/- A block that is known whole; the folding of an account in plain numbers. -/
namespace Go.Proofs.YtheaacliomfkoaaGreatDoor
open Go.RowKit Go.Sort

/-- Block g is just these cells. -/
def Bk (g : Nat) (t : TypeId) (cs : Array Value) (w : World) : Prop := w.heap[g]? = some (.cells cs t (0, 0))
section
variable {w w' : World} {g : Nat} {t : TypeId} {cs : Array Value}
theorem Bk.lt (h : Bk g t cs w) : g < w.heap.size := (Array.getElem?_eq_some_iff.1 h).1
theorem Bk.cell (h : Bk g t cs w) (i : Nat) : w.cell? ⟨g, i, none⟩ = cs[i]? := by
  unfold Bk at h; simp [World.cell?, h]
theorem Bk.frozen (h : Bk g t cs w) (i : Nat) : w.frozen? ⟨g, i, none⟩ = false := by
  unfold Bk at h; simp [World.frozen?, h]
theorem Bk.new (w : World) (t : TypeId) (cs : Array Value) : Bk w.heap.size t cs (w.alloc (.cells cs t)) := new_block w _
theorem Bk.grownBy (h : Bk g t cs w) {r : Option Nat} (k : w.grownBy w' r) (hr : some g ≠ r) : Bk g t cs w' := (k.block g h.lt hr).trans h
theorem Bk.grows (h : Bk g t cs w) (k : Grows w w') : Bk g t cs w' := (k.block h.lt).trans h
theorem Bk.set_ (h : Bk g t cs w) (i : Nat) (u : Value) : Bk g t (cs.setIfInBounds i u) (w.setCell ⟨g, i, none⟩ u) := by
  unfold Bk at h ⊢
  simp [World.setCell, Array.getElem?_modify, h]
theorem Bk.ne_ {g' : Nat} {t' : TypeId} {cs' : Array Value} (h : Bk g t cs w) (h' : Bk g' t' cs' w) (hne : t ≠ t') : g ≠ g' := by
  rintro rfl
  unfold Bk at h h'
  rw [h] at h'
  injection h' with h'
  injection h' with _ ht
  exact hne ht
end
theorem gSet {g : Nat} (w : World) (o : Nat) (v : Value) : w.grownBy (w.setCell ⟨g, o, none⟩ v) (some g) :=
  ⟨rfl, rfl, rfl, by simp [World.setCell], fun k _ hk => Below.heap_setCell _ _ _ _ (by simpa using hk)⟩

end Go.Proofs.YtheaacliomfkoaaGreatDoor

/- Merged from: Fa1 Tb Stx St1 St2 St3. -/
/- A fact in plain data, and what is wrong with one. -/
namespace Go.Proofs.YtheaacliomfkoaaGreatDoor
open Go.RowKit

/-- A fact: its ID, person, kind, first day, end, code, number, text. -/
structure Fa where
  id : Int
  pe : Int
  ki : Int
  fr : Int
  «to» : Int
  co : ByteArray
  nu : Int
  tx : ByteArray

/-- As a value. -/
def valF (f : Fa) : Value := .agg #[.int .u32 f.id, .int .u32 f.pe, .int .i64 f.ki, .int .i64 f.fr, .int .i64 f.to, .string f.co, .int .i64 f.nu, .string f.tx]

/-- Its numbers are of their kinds, its texts of a size that may be. -/
structure Fit (f : Fa) : Prop where
  id : 0 ≤ f.id ∧ f.id ≤ 4294967295
  pe : 0 ≤ f.pe ∧ f.pe ≤ 4294967295
  ki : -9223372036854775808 ≤ f.ki ∧ f.ki ≤ 9223372036854775807
  fr : -9223372036854775808 ≤ f.fr ∧ f.fr ≤ 9223372036854775807
  «to» : -9223372036854775808 ≤ f.to ∧ f.to ≤ 9223372036854775807
  nu : -9223372036854775808 ≤ f.nu ∧ f.nu ≤ 9223372036854775807
  co : f.co.size ≤ 1000000
  tx : f.tx.size ≤ 1000000

/-- A text's bytes. -/
def ls (s : ByteArray) : List UInt8 := s.data.toList
theorem ls_len (s : ByteArray) : (ls s).length = s.size := Array.length_toList

/-- Is a byte one of a name's? -/
def nameC (b : UInt8) : Bool := decide ((97 ≤ b.toNat ∧ b.toNat ≤ 122) ∨ (48 ≤ b.toNat ∧ b.toNat ≤ 57) ∨ b.toNat = 46 ∨ b.toNat = 95 ∨ b.toNat = 45)
/-- Is a text a name? -/
def nameB (l : List UInt8) : Bool := l.all nameC && !(l == []) && !(l == [45]) && decide (l.length ≤ 32)
/-- Is a byte a digit? -/
def digC (b : UInt8) : Bool := decide (48 ≤ b.toNat ∧ b.toNat ≤ 57)
/-- The number of digits. -/
def numL (n : Nat) : List UInt8 → Nat
  | [] => n
  | b :: l => numL (10 * n + (b.toNat - 48)) l
/-- No needless nought. -/
def neat (l : List UInt8) : Bool := !(l == []) && (decide (l.length ≤ 1) || !(l.head? == some 48))
/-- The number in tens that a text is, if it is one, at most some number. -/
def tensO (l : List UInt8) (most : Nat) : Option Nat := if neat l = true ∧ l.all digC = true ∧ numL 0 l ≤ most then some (numL 0 l) else none
/-- Are all bytes of a text from 32 to 126? -/
def plainB (l : List UInt8) : Bool := l.all fun b => decide (32 ≤ b.toNat ∧ b.toNat ≤ 126)
/-- A text, cut at each of some byte. -/
def pieces (c : UInt8) : List UInt8 → List (List UInt8)
  | [] => [[]]
  | b :: l => if b = c then [] :: pieces c l else match pieces c l with
    | [] => [[b]]
    | x :: r => (b :: x) :: r
/-- A text, cut at the first of some byte. -/
def cutB (c : UInt8) : List UInt8 → List UInt8 × List UInt8 × Bool
  | [] => ([], [], false)
  | b :: l => if b = c then ([], l, true) else (b :: (cutB c l).1, (cutB c l).2.1, (cutB c l).2.2)
/-- A weight's name. -/
def wName (w : List UInt8) : List UInt8 := (cutB 58 w).1
/-- Is a text a weight? -/
def weightB (w : List UInt8) : Bool := (cutB 58 w).2.2 && nameB (wName w) && (match tensO (cutB 58 w).2.1 1000000 with | some v => decide (v ≠ 0) | none => false)
/-- Is a text weights? -/
def weightsB (l : List UInt8) : Bool := (pieces 32 l).all weightB && decide ((pieces 32 l).map wName).Nodup && decide ((pieces 32 l).length ≤ 64)

/-- Is a text an amount's, and of which one? -/
def centsO (l : List UInt8) : Option Int :=
  let neg := l.head? == some 45
  let r := if neg then l.drop 1 else l
  if 4 ≤ r.length ∧ r.length ≤ 17 then
    let a := r.take (r.length - 3)
    let c := r.drop (r.length - 2)
    let n := numL 0 (a ++ c)
    if r[r.length - 3]? = some 46 ∧ a.all digC = true ∧ c.all digC = true ∧ neat a = true ∧ n ≤ 1125899906842624 ∧ ¬ (neg = true ∧ n = 0) then some (if neg then -(n : Int) else n) else none
  else none
def amountB (l : List UInt8) : Bool := match centsO l with | some c => decide (0 ≤ c) | none => false

/-- What is wrong with a rate's text; else 0, and the rate. -/
def rateE (l : List UInt8) : Int × Int :=
  if l = [] then (0, 10) else
  let neg := l.head? == some 45
  let r := if neg then l.drop 1 else l
  if r.getLast? ≠ some 37 then (0, 3) else
  let r := r.dropLast
  let w := (cutB 46 r).1
  let p := (cutB 46 r).2.1
  let point := (cutB 46 r).2.2
  if ¬ (w.all digC = true ∧ neat w = true) then (0, 3) else
  if point = true ∧ ¬ (p.all digC = true ∧ p ≠ [] ∧ p.length ≤ 4 ∧ p.getLast? ≠ some 48) then (0, 3) else
  if neg = true ∧ w = [48] ∧ point = false then (0, 3) else
  let n := numL 0 w * 10000 + numL 0 ((p ++ [48, 48, 48, 48]).take 4)
  if 1000000000 < n then (0, 2) else
  (if neg then -(n : Int) else n, 0)
/-- Is a text an order's? -/
def orderB (l : List UInt8) : Bool := match pieces 32 l with
  | [a, r, b, c] => (tensO a 99).isSome && decide ((rateE r).2 = 0 ∧ 0 ≤ (rateE r).1 ∧ (rateE r).1 ≤ 1000000) && amountB b && amountB c
  | _ => false

/-- A week's text: what is wrong; else 0. -/
def weekE (l : List UInt8) : Int :=
  if ((pieces 32 l).all fun w => neat w && w.all digC) = true ∧ (pieces 32 l).length = 7 then (if ((pieces 32 l).all fun w => decide (numL 0 w ≤ 1440)) = true then 0 else 2) else 3

/-- Has a kind days? Is it the firm's? -/
def daysB (k : Int) : Bool := decide (1 ≤ k ∧ k ≤ 15 ∧ k ≠ 6 ∧ k ≠ 8)
def firmB (k : Int) : Bool := decide (k = 14 ∨ k = 15 ∨ k = 16 ∨ k = 18)
def absenceB (l : List UInt8) : Bool := decide (l = [115, 105, 99, 107] ∨ l = [108, 101, 97, 118, 101] ∨ l = [117, 110, 112, 97, 105, 100] ∨ l = [112, 97, 114, 101, 110, 116, 97, 108])
/-- May a fact's code be? -/
def codeB (k : Int) (l : List UInt8) : Bool :=
  if k = 6 then l == [] || nameB l
  else if k = 7 then absenceB l
  else if k = 8 ∨ k = 9 ∨ k = 10 ∨ k = 12 ∨ k = 14 ∨ k = 15 then nameB l
  else l == []
/-- The least and the greatest number of a kind. -/
def lowN (k : Int) : Int := if k = 8 ∨ k = 14 then -1125899906842624 else if k = 18 then 1 else 0
def highN (k : Int) : Int :=
  if k = 1 then 1 else if k = 2 ∨ k = 8 ∨ k = 9 ∨ k = 10 ∨ k = 11 ∨ k = 12 ∨ k = 14 then 1125899906842624 else if k = 3 ∨ k = 7 then 1000000 else if k = 6 then 1440 else if k = 17 then 100000 else if k = 18 then 4096 else 0
/-- May a fact's text be? -/
def textB (k nu : Int) (l : List UInt8) : Bool :=
  if k = 4 then decide (weekE l = 0)
  else if k = 5 then weightsB l
  else if k = 6 then l == [] || (tensO l nu.toNat).isSome
  else if k = 11 ∨ k = 13 then nameB l
  else if k = 12 then orderB l
  else if k = 14 then plainB l
  else if k = 15 then !(l == []) && plainB l
  else l == []
/-- What is wrong with a fact's days. -/
def daysE (f : Fa) : Int :=
  if (f.ki = 18 ∧ f.fr ≠ 0) ∨ f.fr < -25567 ∨ 84005 < f.fr then 15
  else if f.to ≠ 0 ∧ (daysB f.ki = false ∨ f.to ≤ f.fr) then 24
  else if 84006 < f.to then 15 else 0
/-- What is wrong with a fact. -/
def chkF (f : Fa) : Int :=
  if f.ki < 1 ∨ 18 < f.ki then 11
  else if firmB f.ki ≠ decide (f.pe = 0) then 2
  else if daysE f ≠ 0 then daysE f
  else if codeB f.ki (ls f.co) = false then 12
  else if f.nu < lowN f.ki ∨ highN f.ki < f.nu then 2
  else if 4096 < f.tx.size then 4
  else if textB f.ki f.nu (ls f.tx) = false then 3
  else 0
end Go.Proofs.YtheaacliomfkoaaGreatDoor

/- What the library's variables must hold; it stays while what lay below stays. -/
namespace Go.Proofs.YtheaacliomfkoaaGreatDoor
open Go.RowKit

/-- The library's variables that the walks ask of. -/
structure Tb (w : World) : Prop where
  ml : ∃ m, w.cell? ⟨5, 0, none⟩ = some (.int .i64 m)
  er : ∃ ev, w.cell? ⟨7, 0, none⟩ = some ev ∧ (ev = .nilIface ∨ ∃ te pe, ev = .iface te pe)
theorem cell_lt {w : World} {p : Addr} {v : Value} (h : w.cell? p = some v) : p.block < w.heap.size := World.block_lt_of_cell? w _ h
theorem Tb.below {w w' : World} (h : Tb w) (hb : Below w.heap.size w w') : Tb w' := by
  obtain ⟨⟨m, hm⟩, ev, he, hv⟩ := h
  exact ⟨⟨m, by rw [hb.cell (cell_lt hm)]; exact hm⟩, ev, by rw [hb.cell (cell_lt he)]; exact he, hv⟩
theorem Tb.grows {w w' : World} (h : Tb w) (hb : Grows w w') : Tb w' := h.below hb.below
theorem Tb.alloc {w : World} (h : Tb w) (o : Obj) : Tb (w.alloc o) := h.grows (.of_alloc w o)
/-- Below, one behind the other. -/
theorem bTrans {a b c : World} (h : Below a.heap.size a b) (k : Below b.heap.size b c) : Below a.heap.size a c := ⟨k.os.trans h.os, k.tape.trans h.tape, k.output.trans h.output, Nat.le_trans h.size k.size, fun i hi => (k.block i (Nat.lt_of_lt_of_le hi h.size)).trans (h.block i hi)⟩
theorem bDrewN (w : World) (n : Nat) : Below w.heap.size w (w.drewN n) := (Grows.of_drewN w n).below
theorem bDrew (w : World) : Below w.heap.size w w.drew := (Grows.of_drew w).below
theorem bAlloc (w : World) (o : Obj) : Below w.heap.size w (w.alloc o) := (Grows.of_alloc w o).below
theorem bCell {w w' : World} {k o : Nat} {v : Value} (h : Below w.heap.size w w') (hc : w.cell? ⟨k, o, none⟩ = some v) : w'.cell? ⟨k, o, none⟩ = some v := by
  rw [h.cell (p := ⟨k, o, none⟩) (cell_lt hc)]; exact hc
end Go.Proofs.YtheaacliomfkoaaGreatDoor

/- Texts, byte by byte: what a walk over a text wants. -/
namespace Go.Proofs.YtheaacliomfkoaaGreatDoor
open Go.RowKit

/-- A text's byte, as a number. -/
def byteAt (s : ByteArray) (k : Nat) : Int := (((ls s).getD k 0).toNat : Int)
theorem byteAt_bd (s : ByteArray) (k : Nat) : 0 ≤ byteAt s k ∧ byteAt s k ≤ 255 := by
  have := ((ls s).getD k 0).toNat_lt
  unfold byteAt
  omega
theorem run_at {P : Program} (t : TypeId) (h : P.underlying t = some .string) (s : ByteArray) (k : Nat) (hk : k < s.size) (w : World) : (Instr.index t (.string s) (.int .i64 k)).run P w = .ok (.int .u8 (byteAt s k)) w := by
  rw [run_index_string w t s .i64 k h, dif_pos ⟨by omega, by omega⟩]
  have e : ((ls s).getD k 0) = s[k] := by
    unfold ls
    rw [List.getD_eq_getElem?_getD, Array.getElem?_toList, Array.getElem?_eq_getElem (show k < s.data.size from hk)]
    rfl
  unfold byteAt
  rw [e]
  rfl
theorem byteAt_get {s : ByteArray} {k : Nat} (hk : k < s.size) : (ls s)[k]? = some ((ls s).getD k 0) := by
  have : k < (ls s).length := by rw [ls_len]; exact hk
  rw [List.getD_eq_getElem?_getD, List.getElem?_eq_getElem this]
  rfl
theorem byte_some {s : ByteArray} {k : Nat} (hk : k < s.size) : ∃ b : UInt8, (ls s)[k]? = some b ∧ byteAt s k = (b.toNat : Int) := ⟨_, byteAt_get hk, rfl⟩
theorem isEmpty_ls (s : ByteArray) : s.toList.isEmpty = (ls s == []) := by
  rw [ByteArray.toList_eq]
  unfold ls
  cases s.data.toList <;> rfl
theorem all_more {α : Type} {p : α → Bool} {l : List α} {k : Nat} {b : α} (h : (l.take k).all p = true) (hb : l[k]? = some b) (hp : p b = true) : (l.take (k + 1)).all p = true := by
  rw [List.take_add_one, hb]
  simp [h, hp]
theorem all_bad {α : Type} {p : α → Bool} {l : List α} {k : Nat} {b : α} (hb : l[k]? = some b) (hp : p b = false) : l.all p = false := by
  rw [← Bool.not_eq_true, List.all_eq_true]
  intro h
  have := h b (List.mem_of_getElem? hb)
  rw [hp] at this; cases this
theorem nil_iff (s : ByteArray) : ls s = [] ↔ s.size = 0 := by rw [← ls_len, List.length_eq_zero_iff]
/-- A text, held against a constant one: as the walk spells it. -/
theorem beq_ls (s : ByteArray) (l : List UInt8) : (s.toList == l) = decide (ls s = l) := by
  rw [ByteArray.toList_eq]
  unfold ls
  by_cases h : s.data.toList = l
  · simp [h]
  · simp [h]
end Go.Proofs.YtheaacliomfkoaaGreatDoor

/- A store in plain lists; small contracts of the store. -/
namespace Go.Proofs.YtheaacliomfkoaaGreatDoor
open Go.RowKit Go.Sort

/-- What a slice holds: element i's cells, of 'sz' cells each. -/
def Sl {α : Type} (enc : α → List Value) (sz : Nat) (w : World) (B : Nat) (A : Option Addr) (L : List α) : Prop :=
  L ≠ [] → ∃ b off, A = some ⟨b, off, none⟩ ∧ b < B ∧ ∀ i x, L[i]? = some x → ∀ j u, (enc x)[j]? = some u → w.cell? ⟨b, off + i * sz + j, none⟩ = some u
theorem Sl.below {α : Type} {enc : α → List Value} {sz : Nat} {w w' : World} {A : Option Addr} {L : List α} (h : Sl enc sz w w.heap.size A L) (hb : Below w.heap.size w w') : Sl enc sz w' w'.heap.size A L := fun hl => by
  obtain ⟨b, off, e, hlt, hc⟩ := h hl
  exact ⟨b, off, e, Nat.lt_of_lt_of_le hlt hb.size, fun i x hx j u hu => (hb.cell (p := ⟨b, off + i * sz + j, none⟩) hlt).trans (hc i x hx j u hu)⟩
end Go.Proofs.YtheaacliomfkoaaGreatDoor

/- The place of an ID; what is wrong with a Cancel. -/
namespace Go.Proofs.YtheaacliomfkoaaGreatDoor
open Go.RowKit Go.Sort

end Go.Proofs.YtheaacliomfkoaaGreatDoor

/- One fact more behind a copy of a store's facts. -/
namespace Go.Proofs.YtheaacliomfkoaaGreatDoor
open Go.RowKit Go.Sort

end Go.Proofs.YtheaacliomfkoaaGreatDoor
