/- Merged from: Fa1 Tb Stx St1 St2 St3. -/
import Derived.Lib.Hide
import Derived.Below
import Derived.Test.YtmngghglcgmkeaaGreatDoorGrow
import Derived.Test.YtmngghglcgmkeaaGreatDoorProg
import Derived.WalkKit
import Derived.WalkLawsBesides
import Derived.WalkSpells
import Derived.Laws.IdiomStrings
import Derived.Outline
import Derived.Test.YtmngghglcgmkeaaGreatDoorBk
import Derived.IntWalk
import Derived.Deep.Cut
import Derived.Deep.CutRange
import Derived.Laws.CopyRow
import Derived.Laws.IdiomCopy
import Derived.Laws.MakeOwn
import Derived.Laws.Tables
/- A fact in plain data, and what is wrong with one. -/
namespace Go.Proofs.YtmngghglcgmkeaaGreatDoor
open Go.RowKit

/-- A fact: its ID, person, kind, first day, end, code, number, text. -/
structure Fa where
  id : Int
  pe : Int
  ki : Int
  fr : Int
  «to» : Int
  co : ByteArray
  nu : Int
  tx : ByteArray

/-- Its cells. -/
def encF (f : Fa) : List Value := [.int .u32 f.id, .int .u32 f.pe, .int .i64 f.ki, .int .i64 f.fr, .int .i64 f.to, .string f.co, .int .i64 f.nu, .string f.tx]
theorem encF_len (f : Fa) : (encF f).length = 8 := rfl
theorem encF_one (f : Fa) : ∀ u ∈ encF f, u.oneCell' = true := by
  intro u hu
  simp only [encF, List.mem_cons, List.not_mem_nil, or_false] at hu
  rcases hu with rfl | rfl | rfl | rfl | rfl | rfl | rfl | rfl <;> rfl
/-- As a value. -/
def valF (f : Fa) : Value := .agg #[.int .u32 f.id, .int .u32 f.pe, .int .i64 f.ki, .int .i64 f.fr, .int .i64 f.to, .string f.co, .int .i64 f.nu, .string f.tx]

/-- Its numbers are of their kinds, its texts of a size that may be. -/
structure Fit (f : Fa) : Prop where
  id : 0 ≤ f.id ∧ f.id ≤ 4294967295
  pe : 0 ≤ f.pe ∧ f.pe ≤ 4294967295
  ki : -9223372036854775808 ≤ f.ki ∧ f.ki ≤ 9223372036854775807
  fr : -9223372036854775808 ≤ f.fr ∧ f.fr ≤ 9223372036854775807
  «to» : -9223372036854775808 ≤ f.to ∧ f.to ≤ 9223372036854775807
  nu : -9223372036854775808 ≤ f.nu ∧ f.nu ≤ 9223372036854775807
  co : f.co.size ≤ 1000000
  tx : f.tx.size ≤ 1000000

/-- A text's bytes. -/
def ls (s : ByteArray) : List UInt8 := s.data.toList
theorem ls_len (s : ByteArray) : (ls s).length = s.size := Array.length_toList

/-- Is a byte one of a name's? -/
def nameC (b : UInt8) : Bool := decide ((97 ≤ b.toNat ∧ b.toNat ≤ 122) ∨ (48 ≤ b.toNat ∧ b.toNat ≤ 57) ∨ b.toNat = 46 ∨ b.toNat = 95 ∨ b.toNat = 45)
/-- Is a text a name? -/
def nameB (l : List UInt8) : Bool := l.all nameC && !(l == []) && !(l == [45]) && decide (l.length ≤ 32)
/-- Is a byte a digit? -/
def digC (b : UInt8) : Bool := decide (48 ≤ b.toNat ∧ b.toNat ≤ 57)
/-- The number of digits. -/
def numL (n : Nat) : List UInt8 → Nat
  | [] => n
  | b :: l => numL (10 * n + (b.toNat - 48)) l
/-- No needless nought. -/
def neat (l : List UInt8) : Bool := !(l == []) && (decide (l.length ≤ 1) || !(l.head? == some 48))
/-- The number in tens that a text is, if it is one, at most some number. -/
def tensO (l : List UInt8) (most : Nat) : Option Nat := if neat l = true ∧ l.all digC = true ∧ numL 0 l ≤ most then some (numL 0 l) else none
/-- Are all bytes of a text from 32 to 126? -/
def plainB (l : List UInt8) : Bool := l.all fun b => decide (32 ≤ b.toNat ∧ b.toNat ≤ 126)
/-- A text, cut at each of some byte. -/
def pieces (c : UInt8) : List UInt8 → List (List UInt8)
  | [] => [[]]
  | b :: l => if b = c then [] :: pieces c l else match pieces c l with
    | [] => [[b]]
    | x :: r => (b :: x) :: r
/-- A text, cut at the first of some byte. -/
def cutB (c : UInt8) : List UInt8 → List UInt8 × List UInt8 × Bool
  | [] => ([], [], false)
  | b :: l => if b = c then ([], l, true) else (b :: (cutB c l).1, (cutB c l).2.1, (cutB c l).2.2)
/-- A weight's name. -/
def wName (w : List UInt8) : List UInt8 := (cutB 58 w).1
/-- Is a text a weight? -/
def weightB (w : List UInt8) : Bool := (cutB 58 w).2.2 && nameB (wName w) && (match tensO (cutB 58 w).2.1 1000000 with | some v => decide (v ≠ 0) | none => false)
/-- Is a text weights? -/
def weightsB (l : List UInt8) : Bool := (pieces 32 l).all weightB && decide ((pieces 32 l).map wName).Nodup && decide ((pieces 32 l).length ≤ 64)

/-- Is a text an amount's, and of which one? -/
def centsO (l : List UInt8) : Option Int :=
  let neg := l.head? == some 45
  let r := if neg then l.drop 1 else l
  if 4 ≤ r.length ∧ r.length ≤ 17 then
    let a := r.take (r.length - 3)
    let c := r.drop (r.length - 2)
    let n := numL 0 (a ++ c)
    if r[r.length - 3]? = some 46 ∧ a.all digC = true ∧ c.all digC = true ∧ neat a = true ∧ n ≤ 1125899906842624 ∧ ¬ (neg = true ∧ n = 0) then some (if neg then -(n : Int) else n) else none
  else none
def amountB (l : List UInt8) : Bool := match centsO l with | some c => decide (0 ≤ c) | none => false

/-- What is wrong with a rate's text; else 0, and the rate. -/
def rateE (l : List UInt8) : Int × Int :=
  if l = [] then (0, 10) else
  let neg := l.head? == some 45
  let r := if neg then l.drop 1 else l
  if r.getLast? ≠ some 37 then (0, 3) else
  let r := r.dropLast
  let w := (cutB 46 r).1
  let p := (cutB 46 r).2.1
  let point := (cutB 46 r).2.2
  if ¬ (w.all digC = true ∧ neat w = true) then (0, 3) else
  if point = true ∧ ¬ (p.all digC = true ∧ p ≠ [] ∧ p.length ≤ 4 ∧ p.getLast? ≠ some 48) then (0, 3) else
  if neg = true ∧ w = [48] ∧ point = false then (0, 3) else
  let n := numL 0 w * 10000 + numL 0 ((p ++ [48, 48, 48, 48]).take 4)
  if 1000000000 < n then (0, 2) else
  (if neg then -(n : Int) else n, 0)
/-- Is a text an order's? -/
def orderB (l : List UInt8) : Bool := match pieces 32 l with
  | [a, r, b, c] => (tensO a 99).isSome && decide ((rateE r).2 = 0 ∧ 0 ≤ (rateE r).1 ∧ (rateE r).1 ≤ 1000000) && amountB b && amountB c
  | _ => false

/-- A week's text: what is wrong; else 0. -/
def weekE (l : List UInt8) : Int :=
  if ((pieces 32 l).all fun w => neat w && w.all digC) = true ∧ (pieces 32 l).length = 7 then (if ((pieces 32 l).all fun w => decide (numL 0 w ≤ 1440)) = true then 0 else 2) else 3

/-- Has a kind days? Is it the firm's? -/
def daysB (k : Int) : Bool := decide (1 ≤ k ∧ k ≤ 15 ∧ k ≠ 6 ∧ k ≠ 8)
def firmB (k : Int) : Bool := decide (k = 14 ∨ k = 15 ∨ k = 16 ∨ k = 18)
def absenceB (l : List UInt8) : Bool := decide (l = [115, 105, 99, 107] ∨ l = [108, 101, 97, 118, 101] ∨ l = [117, 110, 112, 97, 105, 100] ∨ l = [112, 97, 114, 101, 110, 116, 97, 108])
/-- May a fact's code be? -/
def codeB (k : Int) (l : List UInt8) : Bool :=
  if k = 6 then l == [] || nameB l
  else if k = 7 then absenceB l
  else if k = 8 ∨ k = 9 ∨ k = 10 ∨ k = 12 ∨ k = 14 ∨ k = 15 then nameB l
  else l == []
/-- The least and the greatest number of a kind. -/
def lowN (k : Int) : Int := if k = 8 ∨ k = 14 then -1125899906842624 else if k = 18 then 1 else 0
def highN (k : Int) : Int :=
  if k = 1 then 1 else if k = 2 ∨ k = 8 ∨ k = 9 ∨ k = 10 ∨ k = 11 ∨ k = 12 ∨ k = 14 then 1125899906842624 else if k = 3 ∨ k = 7 then 1000000 else if k = 6 then 1440 else if k = 17 then 100000 else if k = 18 then 4096 else 0
/-- May a fact's text be? -/
def textB (k nu : Int) (l : List UInt8) : Bool :=
  if k = 4 then decide (weekE l = 0)
  else if k = 5 then weightsB l
  else if k = 6 then l == [] || (tensO l nu.toNat).isSome
  else if k = 11 ∨ k = 13 then nameB l
  else if k = 12 then orderB l
  else if k = 14 then plainB l
  else if k = 15 then !(l == []) && plainB l
  else l == []
/-- What is wrong with a fact's days. -/
def daysE (f : Fa) : Int :=
  if (f.ki = 18 ∧ f.fr ≠ 0) ∨ f.fr < -25567 ∨ 84005 < f.fr then 15
  else if f.to ≠ 0 ∧ (daysB f.ki = false ∨ f.to ≤ f.fr) then 24
  else if 84006 < f.to then 15 else 0
/-- What is wrong with a fact. -/
def chkF (f : Fa) : Int :=
  if f.ki < 1 ∨ 18 < f.ki then 11
  else if firmB f.ki ≠ decide (f.pe = 0) then 2
  else if daysE f ≠ 0 then daysE f
  else if codeB f.ki (ls f.co) = false then 12
  else if f.nu < lowN f.ki ∨ highN f.ki < f.nu then 2
  else if 4096 < f.tx.size then 4
  else if textB f.ki f.nu (ls f.tx) = false then 3
  else 0
end Go.Proofs.YtmngghglcgmkeaaGreatDoor

/- What the library's variables must hold; it stays while what lay below stays. -/
namespace Go.Proofs.YtmngghglcgmkeaaGreatDoor
open Go.RowKit

/-- The library's variables that the walks ask of. -/
structure Tb (w : World) : Prop where
  ml : ∃ m, w.cell? ⟨2, 0, none⟩ = some (.int .i64 m)
  er : ∃ ev, w.cell? ⟨4, 0, none⟩ = some ev ∧ (ev = .nilIface ∨ ∃ te pe, ev = .iface te pe)
theorem cell_lt {w : World} {p : Addr} {v : Value} (h : w.cell? p = some v) : p.block < w.heap.size := World.block_lt_of_cell? w _ h
theorem Tb.below {w w' : World} (h : Tb w) (hb : Below w.heap.size w w') : Tb w' := by
  obtain ⟨⟨m, hm⟩, ev, he, hv⟩ := h
  exact ⟨⟨m, by rw [hb.cell (cell_lt hm)]; exact hm⟩, ev, by rw [hb.cell (cell_lt he)]; exact he, hv⟩
theorem Tb.grows {w w' : World} (h : Tb w) (hb : Grows w w') : Tb w' := h.below hb.below
theorem Tb.drewN {w : World} (h : Tb w) (n : Nat) : Tb (w.drewN n) := h.grows (.of_drewN w n)
theorem Tb.alloc {w : World} (h : Tb w) (o : Obj) : Tb (w.alloc o) := h.grows (.of_alloc w o)
/-- Below, one behind the other. -/
theorem bTrans {a b c : World} (h : Below a.heap.size a b) (k : Below b.heap.size b c) : Below a.heap.size a c := ⟨k.os.trans h.os, k.tape.trans h.tape, k.output.trans h.output, Nat.le_trans h.size k.size, fun i hi => (k.block i (Nat.lt_of_lt_of_le hi h.size)).trans (h.block i hi)⟩
theorem bDrewN (w : World) (n : Nat) : Below w.heap.size w (w.drewN n) := (Grows.of_drewN w n).below
theorem bDrew (w : World) : Below w.heap.size w w.drew := (Grows.of_drew w).below
theorem bAlloc (w : World) (o : Obj) : Below w.heap.size w (w.alloc o) := (Grows.of_alloc w o).below
theorem bCell {w w' : World} {k o : Nat} {v : Value} (h : Below w.heap.size w w') (hc : w.cell? ⟨k, o, none⟩ = some v) : w'.cell? ⟨k, o, none⟩ = some v := by
  rw [h.cell (p := ⟨k, o, none⟩) (cell_lt hc)]; exact hc
theorem bSet {w w' : World} (h : Below w.heap.size w w') {p : Addr} (hp : w.heap.size ≤ p.block) (v : Value) : Below w.heap.size w (w'.setCell p v) := h.setCell hp v
end Go.Proofs.YtmngghglcgmkeaaGreatDoor

/- Texts, byte by byte: what a walk over a text wants. -/
namespace Go.Proofs.YtmngghglcgmkeaaGreatDoor
open Go.RowKit

/-- A text's byte, as a number. -/
def byteAt (s : ByteArray) (k : Nat) : Int := (((ls s).getD k 0).toNat : Int)
theorem byteAt_bd (s : ByteArray) (k : Nat) : 0 ≤ byteAt s k ∧ byteAt s k ≤ 255 := by
  have := ((ls s).getD k 0).toNat_lt
  unfold byteAt
  omega
theorem run_at {P : Program} (t : TypeId) (h : P.underlying t = some .string) (s : ByteArray) (k : Nat) (hk : k < s.size) (w : World) : (Instr.index t (.string s) (.int .i64 k)).run P w = .ok (.int .u8 (byteAt s k)) w := by
  rw [run_index_string w t s .i64 k h, dif_pos ⟨by omega, by omega⟩]
  have e : ((ls s).getD k 0) = s[k] := by
    unfold ls
    rw [List.getD_eq_getElem?_getD, Array.getElem?_toList, Array.getElem?_eq_getElem (show k < s.data.size from hk)]
    rfl
  unfold byteAt
  rw [e]
  rfl
theorem byteAt_get {s : ByteArray} {k : Nat} (hk : k < s.size) : (ls s)[k]? = some ((ls s).getD k 0) := by
  have : k < (ls s).length := by rw [ls_len]; exact hk
  rw [List.getD_eq_getElem?_getD, List.getElem?_eq_getElem this]
  rfl
theorem byte_some {s : ByteArray} {k : Nat} (hk : k < s.size) : ∃ b : UInt8, (ls s)[k]? = some b ∧ byteAt s k = (b.toNat : Int) := ⟨_, byteAt_get hk, rfl⟩
theorem isEmpty_ls (s : ByteArray) : s.toList.isEmpty = (ls s == []) := by
  rw [ByteArray.toList_eq]
  unfold ls
  cases s.data.toList <;> rfl
theorem all_more {α : Type} {p : α → Bool} {l : List α} {k : Nat} {b : α} (h : (l.take k).all p = true) (hb : l[k]? = some b) (hp : p b = true) : (l.take (k + 1)).all p = true := by
  rw [List.take_add_one, hb]
  simp [h, hp]
theorem all_bad {α : Type} {p : α → Bool} {l : List α} {k : Nat} {b : α} (hb : l[k]? = some b) (hp : p b = false) : l.all p = false := by
  rw [← Bool.not_eq_true, List.all_eq_true]
  intro h
  have := h b (List.mem_of_getElem? hb)
  rw [hp] at this; cases this
theorem nil_iff (s : ByteArray) : ls s = [] ↔ s.size = 0 := by rw [← ls_len, List.length_eq_zero_iff]
/-- A text, held against a constant one: as the walk spells it. -/
theorem beq_ls (s : ByteArray) (l : List UInt8) : (s.toList == l) = decide (ls s = l) := by
  rw [ByteArray.toList_eq]
  unfold ls
  by_cases h : s.data.toList = l
  · simp [h]
  · simp [h]
end Go.Proofs.YtmngghglcgmkeaaGreatDoor

/- A store in plain lists; small contracts of the store. -/
namespace Go.Proofs.YtmngghglcgmkeaaGreatDoor
open Go.RowKit Go.Sort

/-- What a slice holds: element i's cells, of 'sz' cells each. -/
def Sl {α : Type} (enc : α → List Value) (sz : Nat) (w : World) (B : Nat) (A : Option Addr) (L : List α) : Prop :=
  L ≠ [] → ∃ b off, A = some ⟨b, off, none⟩ ∧ b < B ∧ ∀ i x, L[i]? = some x → ∀ j u, (enc x)[j]? = some u → w.cell? ⟨b, off + i * sz + j, none⟩ = some u
theorem Sl.below {α : Type} {enc : α → List Value} {sz : Nat} {w w' : World} {A : Option Addr} {L : List α} (h : Sl enc sz w w.heap.size A L) (hb : Below w.heap.size w w') : Sl enc sz w' w'.heap.size A L := fun hl => by
  obtain ⟨b, off, e, hlt, hc⟩ := h hl
  exact ⟨b, off, e, Nat.lt_of_lt_of_le hlt hb.size, fun i x hx j u hu => (hb.cell (p := ⟨b, off + i * sz + j, none⟩) hlt).trans (hc i x hx j u hu)⟩
/-- A slice's eight cells of a fact. -/
structure At8 (w : World) (b o : Nat) (f : Fa) : Prop where
  c0 : w.cell? ⟨b, o, none⟩ = some (.int .u32 f.id)
  c1 : w.cell? ⟨b, o + 1, none⟩ = some (.int .u32 f.pe)
  c2 : w.cell? ⟨b, o + 2, none⟩ = some (.int .i64 f.ki)
  c3 : w.cell? ⟨b, o + 3, none⟩ = some (.int .i64 f.fr)
  c4 : w.cell? ⟨b, o + 4, none⟩ = some (.int .i64 f.to)
  c5 : w.cell? ⟨b, o + 5, none⟩ = some (.string f.co)
  c6 : w.cell? ⟨b, o + 6, none⟩ = some (.int .i64 f.nu)
  c7 : w.cell? ⟨b, o + 7, none⟩ = some (.string f.tx)
theorem At8.below {w w' : World} {b o : Nat} {f : Fa} (h : At8 w b o f) (hb : Below w.heap.size w w') : At8 w' b o f :=
  ⟨bCell hb h.c0, bCell hb h.c1, bCell hb h.c2, bCell hb h.c3, bCell hb h.c4, bCell hb h.c5, bCell hb h.c6, bCell hb h.c7⟩
/-- Facts in a slice. -/
abbrev SlF (w : World) (A : Option Addr) (L : List Fa) : Prop := Sl encF 8 w w.heap.size A L
theorem SlF.open_ {w : World} {A : Option Addr} {L : List Fa} (h : SlF w A L) (hl : L ≠ []) : ∃ b off, A = some ⟨b, off, none⟩ ∧ b < w.heap.size ∧ ∀ i f, L[i]? = some f → At8 w b (off + i * 8) f := by
  obtain ⟨b, off, e, hb, hc⟩ := h hl
  exact ⟨b, off, e, hb, fun i f hf => ⟨hc i f hf 0 _ rfl, hc i f hf 1 _ rfl, hc i f hf 2 _ rfl, hc i f hf 3 _ rfl, hc i f hf 4 _ rfl, hc i f hf 5 _ rfl, hc i f hf 6 _ rfl, hc i f hf 7 _ rfl⟩⟩

/-- Is the fact of a number taken back? -/
def takenB (L : List Fa) (n : Int) : Bool := L.any fun f => decide (f.ki = 18 ∧ f.nu = n)
theorem any_bad {α : Type} {p : α → Bool} {l : List α} {k : Nat} {b : α} (hb : l[k]? = some b) (hp : p b = true) : l.any p = true := List.any_eq_true.2 ⟨b, List.mem_of_getElem? hb, hp⟩
theorem any_more {α : Type} {p : α → Bool} {l : List α} {k : Nat} {b : α} (h : (l.take k).any p = false) (hb : l[k]? = some b) (hp : p b = false) : (l.take (k + 1)).any p = false := by
  rw [List.take_add_one, hb]
  simp [h, hp]

set_option maxHeartbeats 2000000 in
set_option maxRecDepth 10000 in
theorem st_taken (L : List Fa) (A : Option Addr) (cap : Nat) (n : Int) (w : World) (hn : L.length ≤ 1000000) (hs : SlF w A L) :
    Calls Tryz.prog 57 #[.slice A L.length cap, .int .i64 n] w fun e w' => e = .returned (.bool (takenB L n)) ∧ Below w.heap.size w w' := by
  have HS := Lib.hid hs
  clear hs
  go_enter Tryz.func57, Tryz.ntmps57
  go_wp2
  go_loopw [6, 9] (fun _ iv wr => ∃ k : Nat, k ≤ L.length ∧ iv = .int .i64 k ∧ Hid (takenB (L.take k) n = false) ∧ Hid (Below w.heap.size w wr)) (fun _ iv _ => L.length - (intOf iv).toNat)
  case atStart => exact ⟨0, Nat.zero_le _, rfl, Lib.hid rfl, Lib.hid (Below.refl _ _)⟩
  case round =>
    obtain ⟨k, hk, rfl, HP, HB⟩ := hrel
    by_cases hlt : k < L.length
    · obtain ⟨b, off, rfl, hbl, hat⟩ := HS.out.open_ (by intro h; simp [h] at hlt)
      obtain ⟨f, hx⟩ : ∃ x, L[k]? = some x := ⟨_, List.getElem?_eq_getElem hlt⟩
      have hat1 := (hat k f hx).below HB.out
      have C0 := hat1.c0
      have C1 := hat1.c1
      have C2 := hat1.c2
      have C3 := hat1.c3
      have C4 := hat1.c4
      have C5 := hat1.c5
      have C6 := hat1.c6
      have C7 := hat1.c7
      have HX := Lib.hid hx
      have HBA : Hid (∀ o, Below w.heap.size w (wr.alloc o)) := Lib.hid (fun o => bTrans HB.out (bAlloc wr o))
      clear hat hat1 hx
      by_cases h18 : f.ki = 18
      · have b18 : (f.ki == 18) = true := beq_iff_eq.2 h18
        have H18 := Lib.hid h18
        clear h18
        by_cases hnu : f.nu = n
        · have bn : (f.nu == n) = true := beq_iff_eq.2 hnu
          have HF : Hid (takenB L n = true) := Lib.hid (any_bad HX.out (decide_eq_true ⟨H18.out, hnu⟩))
          clear hnu
          go_wp2
          go_ret
          exact ⟨ret_b HF.out.symm, HBA.out _⟩
        · have bn : (f.nu == n) = false := beq_eq_false_iff_ne.2 hnu
          have HN : Hid (takenB (L.take (k + 1)) n = false) := Lib.hid (any_more HP.out HX.out (decide_eq_false (fun h => hnu h.2)))
          clear hnu
          go_wp2
          exact ⟨⟨k + 1, by omega, by go_num, HN, Lib.hid (HBA.out _)⟩, by simp [intOf]; omega⟩
      · have b18 : (f.ki == 18) = false := beq_eq_false_iff_ne.2 h18
        have HN : Hid (takenB (L.take (k + 1)) n = false) := Lib.hid (any_more HP.out HX.out (decide_eq_false (fun h => h18 h.1)))
        clear h18
        go_wp2
        exact ⟨⟨k + 1, by omega, by go_num, HN, Lib.hid (HBA.out _)⟩, by simp [intOf]; omega⟩
    · obtain rfl : k = L.length := by omega
      have HF : Hid (takenB L n = false) := Lib.hid (by have := HP.out; rwa [List.take_length] at this)
      go_wp2
      go_ret
      exact ⟨ret_b HF.out.symm, HB.out⟩
end Go.Proofs.YtmngghglcgmkeaaGreatDoor

/- The place of an ID; what is wrong with a Cancel. -/
namespace Go.Proofs.YtmngghglcgmkeaaGreatDoor
open Go.RowKit Go.Sort

abbrev FA (f : Fa) : Array Value := #[.int .u32 f.id, .int .u32 f.pe, .int .i64 f.ki, .int .i64 f.fr, .int .i64 f.to, .string f.co, .int .i64 f.nu, .string f.tx]
/-- The place of the fact that has an ID, from a number on; -1: there is none. -/
def idxI (id : Int) : Nat → List Fa → Int
  | _, [] => -1
  | k, f :: L => if f.id = id then k else idxI id (k + 1) L
def placeI (L : List Fa) (id : Int) : Int := if id = 0 then -1 else idxI id 0 L
theorem idxI_hit {id : Int} : ∀ {L : List Fa} {k j : Nat} {f : Fa}, (∀ (i : Nat) (g : Fa), i < k → L[i]? = some g → g.id ≠ id) → L[k]? = some f → f.id = id → idxI id j L = ((j + k : Nat) : Int)
  | [], k, j, f, _, h, _ => by simp at h
  | g :: L, 0, j, f, _, h, hf => by
    have : g = f := by simpa using h
    subst this
    unfold idxI; rw [if_pos hf]; rfl
  | g :: L, k + 1, j, f, hn, h, hf => by
    unfold idxI
    rw [if_neg (hn 0 g (by omega) rfl), idxI_hit (L := L) (k := k) (j := j + 1) (fun i x hi hx => hn (i + 1) x (by omega) (by simpa using hx)) (by simpa using h) hf]
    congr 1; omega
theorem idxI_none {id : Int} : ∀ {L : List Fa} {j : Nat}, (∀ (i : Nat) (g : Fa), L[i]? = some g → g.id ≠ id) → idxI id j L = -1
  | [], _, _ => rfl
  | g :: L, j, h => by
    unfold idxI
    rw [if_neg (h 0 g rfl)]
    exact idxI_none (fun i x hx => h (i + 1) x (by simpa using hx))

theorem st_place1 (f : Fa) (p : Nat) (id : Int) (w : World) (hp : w.cell? ⟨p, 0, none⟩ = some (.int .u32 id)) :
    Calls Tryz.prog 56 #[.agg (FA f), .pointer (some ⟨p, 0, none⟩)] w fun e w' => e = .returned (.bool (f.id == id)) ∧ Below w.heap.size w w' := by
  unfold FA
  have hlt := cell_lt hp
  simp only at hlt
  have HB := Lib.hid (bAlloc w (.cells (FA f) 26))
  unfold FA at HB
  go_enter Tryz.func56, Tryz.ntmps56
  go_wp2
  go_ret
  exact ⟨rfl, HB.out⟩

set_option maxHeartbeats 2000000 in
set_option maxRecDepth 10000 in
theorem st_IndexFunc (L : List Fa) (A : Option Addr) (cap : Nat) (p : Nat) (id : Int) (w : World) (hn : L.length ≤ 1000000) (hs : SlF w A L) (hp : w.cell? ⟨p, 0, none⟩ = some (.int .u32 id)) :
    Calls Tryz.prog 55 #[.slice A L.length cap, .func (.func 56) #[] #[.pointer (some ⟨p, 0, none⟩)]] w fun e w' => e = .returned (.int .i64 (idxI id 0 L)) ∧ Below w.heap.size w w' := by
  have HS := Lib.hid hs
  have HPC := Lib.hid hp
  clear hs hp
  go_enter Tryz.func55, Tryz.ntmps55
  go_wp2
  go_loopw [5, 8] (fun _ iv wr => ∃ k : Nat, k ≤ L.length ∧ iv = .int .i64 k ∧ Hid (∀ (i : Nat) (g : Fa), i < k → L[i]? = some g → g.id ≠ id) ∧ Hid (Below w.heap.size w wr)) (fun _ iv _ => L.length - (intOf iv).toNat)
  case atStart => exact ⟨0, Nat.zero_le _, rfl, Lib.hid (fun i g h => absurd h (by omega)), Lib.hid (Below.refl _ _)⟩
  case round =>
    obtain ⟨k, hk, rfl, HP, HB⟩ := hrel
    by_cases hlt : k < L.length
    · obtain ⟨b, off, rfl, hbl, hat⟩ := HS.out.open_ (by intro h; simp [h] at hlt)
      obtain ⟨f, hx⟩ : ∃ x, L[k]? = some x := ⟨_, List.getElem?_eq_getElem hlt⟩
      have hat1 := (hat k f hx).below HB.out
      have C0 := hat1.c0
      have C1 := hat1.c1
      have C2 := hat1.c2
      have C3 := hat1.c3
      have C4 := hat1.c4
      have C5 := hat1.c5
      have C6 := hat1.c6
      have C7 := hat1.c7
      have HX := Lib.hid hx
      have HPL := Lib.hid (st_place1 f p id wr (bCell HB.out HPC.out))
      unfold FA at HPL
      clear hat hat1 hx
      by_cases hid : f.id = id
      · have bi : (f.id == id) = true := beq_iff_eq.2 hid
        have HF : Hid (idxI id 0 L = (k : Int)) := Lib.hid (by rw [idxI_hit HP.out HX.out hid]; simp)
        rw [bi] at HPL
        clear hid bi
        go_wp2_with fail
        refine (HPL.out).mono ?_
        rintro e w1 ⟨rfl, hb1⟩
        go_wp2
        go_ret
        exact ⟨ret_i HF.out.symm, bTrans HB.out hb1⟩
      · have bi : (f.id == id) = false := beq_eq_false_iff_ne.2 hid
        have HN : Hid (∀ (i : Nat) (g : Fa), i < k + 1 → L[i]? = some g → g.id ≠ id) := Lib.hid (fun i g hi hg => by
          rcases Nat.lt_or_ge i k with h | h
          · exact HP.out i g h hg
          · have : i = k := by omega
            subst this
            rw [HX.out] at hg
            rw [← Option.some.inj hg]; exact hid)
        rw [bi] at HPL
        clear hid bi
        go_wp2_with fail
        refine (HPL.out).mono ?_
        rintro e w1 ⟨rfl, hb1⟩
        have HB2 := Lib.hid (bTrans HB.out hb1)
        clear hb1
        go_wp2
        exact ⟨⟨k + 1, by omega, by go_num, HN, HB2⟩, by simp [intOf]; omega⟩
    · obtain rfl : k = L.length := by omega
      have HF : Hid (idxI id 0 L = -1) := Lib.hid (idxI_none (fun i g hg => HP.out i g (List.getElem?_eq_some_iff.1 hg).1 hg))
      go_wp2
      go_ret
      exact ⟨ret_i HF.out.symm, HB.out⟩

theorem st_place (L : List Fa) (A : Option Addr) (cap : Nat) (id : Int) (w : World) (hn : L.length ≤ 1000000) (hs : SlF w A L) :
    Calls Tryz.prog 28 #[.agg #[.slice A L.length cap], .int .u32 id] w fun e w' => e = .returned (.int .i64 (placeI L id)) ∧ Below w.heap.size w w' := by
  by_cases h0 : id = 0
  · have b0 : (id == 0) = true := beq_iff_eq.2 h0
    have HF : Hid (placeI L id = -1) := Lib.hid (if_pos h0)
    have HB : Hid (∀ o p, Below w.heap.size w ((w.alloc o).alloc p)) := Lib.hid (fun o p => bTrans (bAlloc w o) (bAlloc _ p))
    clear h0
    go_enter Tryz.func28, Tryz.ntmps28
    go_wp2
    go_ret
    exact ⟨ret_i HF.out.symm, HB.out _ _⟩
  · have b0 : (id == 0) = false := beq_eq_false_iff_ne.2 h0
    have HF : Hid (placeI L id = idxI id 0 L) := Lib.hid (if_neg h0)
    have HB : Hid (∀ o p, Below w.heap.size w ((w.alloc o).alloc p)) := Lib.hid (fun o p => bTrans (bAlloc w o) (bAlloc _ p))
    have HI : Hid (∀ W, Below w.heap.size w W → W.cell? ⟨w.heap.size + 1, 0, none⟩ = some (.int .u32 id) → Calls Tryz.prog 55 #[.slice A L.length cap, .func (.func 56) #[] #[.pointer (some ⟨w.heap.size + 1, 0, none⟩)]] W fun e w' => e = .returned (.int .i64 (idxI id 0 L)) ∧ Below W.heap.size W w') := Lib.hid (fun W hb hc => st_IndexFunc L A cap _ id W hn (hs.below hb) hc)
    have HC : Hid (∀ o, ((w.alloc o).alloc (.cells #[.int .u32 id] 23)).cell? ⟨w.heap.size + 1, 0, none⟩ = some (.int .u32 id)) := Lib.hid (fun o => by
      have := new_cell (w.alloc o) #[.int .u32 id] 23 (0, 0) (o := 0) (v := .int .u32 id) rfl
      rwa [show (w.alloc o).heap.size = w.heap.size + 1 by simp] at this)
    clear h0 hs
    go_enter Tryz.func28, Tryz.ntmps28
    go_wp2_with fail
    refine (HI.out _ (HB.out _ _) (HC.out _)).mono ?_
    rintro e w1 ⟨rfl, hb1⟩
    go_wp2
    go_ret
    exact ⟨ret_i HF.out.symm, bTrans (HB.out _ _) hb1⟩

/-- What is wrong with a Cancel. -/
def canE (L : List Fa) (f : Fa) : Int :=
  if f.ki ≠ 18 then 0
  else if (L.length : Int) < f.nu then 6
  else match L[(f.nu - 1).toNat]? with
    | some g => if g.ki = 18 then 11 else if takenB L f.nu = true then 18 else 0
    | none => 0
set_option maxHeartbeats 2000000 in
set_option maxRecDepth 10000 in
theorem st_cancel (L : List Fa) (A : Option Addr) (cap : Nat) (f : Fa) (w : World) (hn : L.length ≤ 1000000) (hs : SlF w A L) (hf : f.ki = 18 → 1 ≤ f.nu ∧ f.nu ≤ 4096) :
    Calls Tryz.prog 29 #[.agg #[.slice A L.length cap], .agg (FA f)] w fun e w' => e = .returned (.int .i64 (canE L f)) ∧ Below w.heap.size w w' := by
  unfold FA
  have HB : Hid (∀ o p, Below w.heap.size w ((w.alloc o).alloc p)) := Lib.hid (fun o p => bTrans (bAlloc w o) (bAlloc _ p))
  by_cases h18 : f.ki = 18
  · have b18 : (f.ki != 18) = false := by rw [h18]; rfl
    obtain ⟨hn1, hn2⟩ := hf h18
    have HL : Hid (canE L f = if (L.length : Int) < f.nu then 6 else match L[(f.nu - 1).toNat]? with | some g => if g.ki = 18 then 11 else if takenB L f.nu = true then 18 else 0 | none => 0) := Lib.hid (by unfold canE; rw [if_neg (fun h => h h18)])
    clear h18 hf
    by_cases hlt : (L.length : Int) < f.nu
    · have HF : Hid (canE L f = 6) := Lib.hid (by rw [HL.out, if_pos hlt])
      go_enter Tryz.func29, Tryz.ntmps29
      go_wp2
      go_ret
      exact ⟨ret_i HF.out.symm, HB.out _ _⟩
    · obtain ⟨m, hm⟩ : ∃ m : Nat, f.nu = (m : Int) + 1 := ⟨(f.nu - 1).toNat, by omega⟩
      obtain ⟨g, hx⟩ : ∃ g, L[m]? = some g := ⟨_, List.getElem?_eq_getElem (by omega)⟩
      have HL2 : Hid (canE L f = if g.ki = 18 then 11 else if takenB L f.nu = true then 18 else 0) := Lib.hid (by rw [HL.out, if_neg hlt, show (f.nu - 1).toNat = m by omega, hx])
      obtain ⟨b, off, rfl, hbl, hat⟩ := hs.open_ (by intro h; rw [h] at hx; simp at hx)
      have HAT : Hid (∀ W, Below w.heap.size w W → W.cell? ⟨b, off + m * 8 + 2, none⟩ = some (.int .i64 g.ki)) := Lib.hid (fun W hb => bCell hb (hat m g hx).c2)
      have HTK : Hid (∀ W, Below w.heap.size w W → Calls Tryz.prog 57 #[.slice (some ⟨b, off, none⟩) L.length cap, .int .i64 f.nu] W fun e w' => e = .returned (.bool (takenB L f.nu)) ∧ Below W.heap.size W w') := Lib.hid (fun W hb => st_taken L _ cap f.nu W hn (hs.below hb))
      have hml : m < L.length := by omega
      have hw1 : IntKind.i64.wrap (f.nu - 1) = f.nu - 1 := IntWalk.i64_in _ (by omega)
      have hge : 0 ≤ f.nu - 1 := by omega
      have hltn : f.nu - 1 < (L.length : Int) := by omega
      have htn : (f.nu - 1).toNat = m := by omega
      clear hat hx hm hs
      go_enter Tryz.func29, Tryz.ntmps29
      have CK := fun o p => HAT.out _ (HB.out o p)
      by_cases hg : g.ki = 18
      · have bg : (g.ki == 18) = true := beq_iff_eq.2 hg
        have HF : Hid (canE L f = 11) := Lib.hid (by rw [HL2.out, if_pos hg])
        clear hg
        go_wp2
        go_ret
        exact ⟨ret_i HF.out.symm, HB.out _ _⟩
      · have bg : (g.ki == 18) = false := beq_eq_false_iff_ne.2 hg
        have HF : Hid (canE L f = if takenB L f.nu = true then 18 else 0) := Lib.hid (by rw [HL2.out, if_neg hg])
        clear hg
        go_wp2_with fail
        refine (HTK.out _ (HB.out _ _)).mono ?_
        rintro e w1 ⟨rfl, hb1⟩
        have HB1 := Lib.hid (bTrans (HB.out _ _) hb1)
        clear hb1
        obtain ⟨tb, htb⟩ : ∃ x, takenB L f.nu = x := ⟨_, rfl⟩
        have HF2 : Hid (canE L f = if tb = true then 18 else 0) := Lib.hid (by rw [HF.out, htb])
        rw [htb]
        clear htb
        cases tb with
        | true =>
          go_wp2
          go_ret
          exact ⟨ret_i HF2.out.symm, HB1.out⟩
        | false =>
          go_wp2
          go_ret
          exact ⟨ret_i HF2.out.symm, HB1.out⟩
  · have b18 : (f.ki != 18) = true := bne_iff_ne.2 h18
    have HF : Hid (canE L f = 0) := Lib.hid (if_pos h18)
    clear h18 hf
    go_enter Tryz.func29, Tryz.ntmps29
    go_wp2
    go_ret
    exact ⟨ret_i HF.out.symm, HB.out _ _⟩
end Go.Proofs.YtmngghglcgmkeaaGreatDoor

/- One fact more behind a copy of a store's facts. -/
namespace Go.Proofs.YtmngghglcgmkeaaGreatDoor
open Go.RowKit Go.Sort

def rowF (L : List Fa) : List Value := L.flatMap encF
theorem rowF_len (L : List Fa) : (rowF L).length = L.length * 8 := by
  induction L with
  | nil => rfl
  | cons f L ih => show (encF f ++ rowF L).length = _; rw [List.length_append, ih, encF_len, List.length_cons]; omega
theorem rowF_one (L : List Fa) : ∀ v ∈ rowF L, v.oneCell' = true := by
  intro v hv
  obtain ⟨f, _, h⟩ := List.mem_flatMap.1 hv
  exact encF_one f v h
theorem rowF_at : ∀ (L : List Fa) (i : Nat) (f : Fa), L[i]? = some f → ∀ (j : Nat) (u : Value), (encF f)[j]? = some u → (rowF L)[i * 8 + j]? = some u
  | [], _, _, h, _, _, _ => by simp at h
  | g :: L, 0, f, h, j, u, hu => by
    have : g = f := by simpa using h
    subst this
    have hj : j < 8 := by have := (List.getElem?_eq_some_iff.1 hu).1; rwa [encF_len] at this
    show (encF g ++ rowF L)[0 * 8 + j]? = some u
    rw [List.getElem?_append_left (by rw [encF_len]; omega), Nat.zero_mul, Nat.zero_add]; exact hu
  | g :: L, i + 1, f, h, j, u, hu => by
    show (encF g ++ rowF L)[(i + 1) * 8 + j]? = some u
    rw [List.getElem?_append_right (by rw [encF_len]; omega), encF_len, show (i + 1) * 8 + j - 8 = i * 8 + j by omega]
    exact rowF_at L i f (by simpa using h) j u hu
theorem rowF_cells {w : World} {A : Option Addr} {L : List Fa} (hs : SlF w A L) {b off : Nat} (hA : A = some ⟨b, off, none⟩) : ∀ j v, (rowF L)[j]? = some v → w.cell? ((⟨b, off, none⟩ : Addr).add j) = some v := by
  intro j v hv
  have hlt := (List.getElem?_eq_some_iff.1 hv).1
  rw [rowF_len] at hlt
  have hL : L ≠ [] := by intro h; rw [h] at hlt; simp at hlt
  obtain ⟨b', off', e, _, hc⟩ := hs hL
  rw [hA] at e
  injection e with e
  injection e with e1 e2
  subst e1; subst e2
  obtain ⟨f, hf⟩ : ∃ f, L[j / 8]? = some f := ⟨_, List.getElem?_eq_getElem (by omega)⟩
  obtain ⟨u, hu⟩ : ∃ u, (encF f)[j % 8]? = some u := ⟨_, List.getElem?_eq_getElem (by rw [encF_len]; omega)⟩
  have h1 := rowF_at L _ f hf _ u hu
  rw [show j / 8 * 8 + j % 8 = j by omega, hv] at h1
  rw [Option.some.inj h1]
  have h2 := hc _ f hf _ u hu
  rw [show off + j / 8 * 8 + j % 8 = off + j by omega] at h2
  have : (⟨b, off, none⟩ : Addr).add j = ⟨b, off + j, none⟩ := by unfold Addr.add; split <;> simp_all
  rw [this]; exact h2
/-- copy into a new row with room for one more. -/
theorem run_copyF (w : World) (g : Nat) (A : Option Addr) (L : List Fa) (cap : Nat) (ty : TypeId) (cur : List Value) (hg : w.heap[g]? = some (.cells cur.toArray 26 (0, 0))) (hc : cur.length = (L.length + 1) * 8) (hs : SlF w A L) :
    (Builtin.copy_ #[22, 22] ty #[.slice (some ⟨g, 0, none⟩) (L.length + 1) (L.length + 1), .slice A L.length cap]).run Tryz.prog w = .ok (goInt L.length) (w.setRow g (rowF L ++ cur.drop (L.length * 8)).toArray) := by
  have hi : (Tryz.prog.info? 26).map (·.size) = some 8 := by kernel_rfl
  have hmin : Nat.min L.length (L.length + 1) = L.length := Nat.min_eq_left (by omega)
  cases hq : Tryz.prog.info? 26 with
  | none => rw [hq] at hi; cases hi
  | some i =>
    have hi8 : i.size = 8 := by rw [hq] at hi; simpa using hi
    have hst := run_storeCells_at Tryz.prog g 0 26 (rowF L) 0 cur.toArray w hg (by rw [rowF_len]; simp; omega) (rowF_one L)
    have hres : w.setRow g (cur.toArray.toList.take (0 + 0) ++ rowF L ++ cur.toArray.toList.drop (0 + 0 + (rowF L).length)).toArray = w.setRow g (rowF L ++ cur.drop (L.length * 8)).toArray := by
      rw [rowF_len]; simp
    rw [hres] at hst
    match A with
    | none =>
      have hL : L = [] := by
        by_cases h : L = []
        · exact h
        · obtain ⟨b, off, e, _⟩ := hs h; cases e
      subst hL
      have e0 : rowF [] = [] := rfl
      rw [e0] at hst ⊢
      have e1 : ([] : List Fa).length = 0 := rfl
      rw [e1] at hst ⊢
      simp only [Nat.zero_mul, List.nil_append, List.drop_zero] at hst ⊢
      simp [Builtin.copy_, run_underlying Tryz.underlying22, Builtin.lenOf, Builtin.firstCells, sizeOf, typeInfo, hq, hst]
    | some a =>
      have hl : (loadCells a (rowF L).length).run Tryz.prog w = .ok (rowF L).toArray w := by
        refine run_loadCells_list w a (rowF L) ?_
        by_cases h : L = []
        · subst h; intro j v hv; simp [rowF] at hv
        · obtain ⟨b, off, e, _⟩ := hs h
          injection e with e
          subst e
          exact rowF_cells hs rfl
      rw [rowF_len] at hl
      have hn : min L.length (L.length + 1) = L.length := hmin
      simp [Builtin.copy_, run_underlying Tryz.underlying22, Builtin.lenOf, Builtin.firstCells, sizeOf, typeInfo, hq, hi8, hl, hst]
end Go.Proofs.YtmngghglcgmkeaaGreatDoor
