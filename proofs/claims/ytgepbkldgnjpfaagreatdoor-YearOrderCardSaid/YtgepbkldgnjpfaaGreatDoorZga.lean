/- Out of: Grow Bk Base Txts Rate Rule Chks. -/
import Derived.Test.YtgepbkldgnjpfaaGreatDoorProg
import Derived.Test.YtgepbkldgnjpfaaGreatDoorSh
import Derived.Below
import Derived.BigQuiet
import Derived.Deep.Cut
import Derived.Deep.CutRange
import Derived.Deep.QuietTactic
import Derived.Deep.RegionHeld3
import Derived.Deep.RegionWith
import Derived.IntWalk
import Derived.Laws.AppendOwn
import Derived.Laws.Concat
import Derived.Laws.CopyRow
import Derived.Laws.EntriesVeiled
import Derived.Laws.IdiomCopy
import Derived.Laws.IdiomStrings
import Derived.Laws.MakeOwn
import Derived.Laws.Rows
import Derived.Laws.Tables
import Derived.Lib.AtoiErrMem
import Derived.Lib.ConvBytes
import Derived.Lib.CutLaws
import Derived.Lib.Hide
import Derived.Lib.IndexBytes
import Derived.Lib.ItoaNum
import Derived.Lib.ParseIntB
import Derived.Lib.Split
import Derived.Lib.Strings
import Derived.Maps.OwnOps
import Derived.Maps.OwnSet
import Derived.Outline
import Derived.Shelf.SlSortCmp.QuietGrown
import Derived.WalkKit
import Derived.WalkLawsBesides
import Derived.WalkSpells
/- A world that has only grown: draws, and new blocks behind the elder ones. -/
namespace Go.Proofs.YtgepbkldgnjpfaaGreatDoor
open Go.RowKit Go.Sort

/-- From w to w': draws, and new blocks. -/
def Grows (w w' : World) : Prop := ∃ q os, w' = Sort.grow (w.drewN q) os
theorem Grows.trans {a b c : World} (h : Grows a b) (k : Grows b c) : Grows a c := by
  obtain ⟨q, os, rfl⟩ := h
  obtain ⟨q', os', rfl⟩ := k
  exact ⟨q + q', os ++ os', by show Sort.grow (Sort.grow ((a.drewN q).drewN q') os) os' = _; rw [grow_grow, World.drewN_drewN]⟩
theorem Grows.of_alloc (w : World) (o : Obj) : Grows w (w.alloc o) := ⟨0, #[o], alloc_eq_grow w o⟩
theorem Grows.of_drewN (w : World) (n : Nat) : Grows w (w.drewN n) := ⟨n, #[], (grow_empty _).symm⟩
theorem Grows.of_drew (w : World) : Grows w w.drew := ⟨1, #[], (grow_empty _).symm⟩
theorem Grows.alloc {a b : World} (h : Grows a b) (o : Obj) : Grows a (b.alloc o) := h.trans (.of_alloc b o)
theorem Grows.drew {a b : World} (h : Grows a b) : Grows a b.drew := h.trans (.of_drew b)
theorem Grows.size {a b : World} (h : Grows a b) : a.heap.size ≤ b.heap.size := by
  obtain ⟨q, os, rfl⟩ := h
  rw [size_grow]; exact Nat.le_add_right _ _
theorem Grows.block {a b : World} (h : Grows a b) {i : Nat} (hi : i < a.heap.size) : b.heap[i]? = a.heap[i]? := by
  obtain ⟨q, os, rfl⟩ := h
  exact heap_grow_old _ _ hi
theorem Grows.below {a b : World} (h : Grows a b) : Below a.heap.size a b := by
  obtain ⟨q, os, rfl⟩ := h
  exact ⟨rfl, rfl, rfl, by rw [size_grow]; exact Nat.le_add_right _ _, fun i hi => heap_grow_old _ _ hi⟩
theorem Grows.cells {a b : World} (h : Grows a b) : (∀ k o, k < a.heap.size → b.cell? ⟨k, o, none⟩ = a.cell? ⟨k, o, none⟩) ∧ (∀ k o, k < a.heap.size → b.frozen? ⟨k, o, none⟩ = a.frozen? ⟨k, o, none⟩) := by
  have hb := h.below
  exact ⟨fun k o hk => hb.cell (p := ⟨k, o, none⟩) hk, fun k o hk => hb.frozen (p := ⟨k, o, none⟩) hk⟩
theorem Grows.cell {a b : World} (h : Grows a b) {k o : Nat} {v : Value} (hk : k < a.heap.size) (hc : a.cell? ⟨k, o, none⟩ = some v) : b.cell? ⟨k, o, none⟩ = some v := by
  rw [h.cells.1 k o hk, hc]
theorem new_block (w : World) (o : Obj) : (w.alloc o).heap[w.heap.size]? = some o := by
  rw [alloc_eq_grow]; unfold Sort.grow; simp
theorem size_new (w : World) (o : Obj) : w.heap.size < (w.alloc o).heap.size := by simp
theorem ret_i {k : IntKind} {a b : Int} (h : a = b) : Ending.returned (.int k a) = .returned (.int k b) := by rw [h]
theorem ret_b {a b : Bool} (h : a = b) : Ending.returned (.bool a) = .returned (.bool b) := by rw [h]
end Go.Proofs.YtgepbkldgnjpfaaGreatDoor

/- A block that is known whole; the folding of an account in plain numbers. -/
namespace Go.Proofs.YtgepbkldgnjpfaaGreatDoor
open Go.RowKit Go.Sort

/-- Block g is just these cells. -/
def Bk (g : Nat) (t : TypeId) (cs : Array Value) (w : World) : Prop := w.heap[g]? = some (.cells cs t (0, 0))
section
variable {w w' : World} {g : Nat} {t : TypeId} {cs : Array Value}
theorem Bk.lt (h : Bk g t cs w) : g < w.heap.size := (Array.getElem?_eq_some_iff.1 h).1
theorem Bk.cell (h : Bk g t cs w) (i : Nat) : w.cell? ⟨g, i, none⟩ = cs[i]? := by
  unfold Bk at h; simp [World.cell?, h]
theorem Bk.frozen (h : Bk g t cs w) (i : Nat) : w.frozen? ⟨g, i, none⟩ = false := by
  unfold Bk at h; simp [World.frozen?, h]
theorem Bk.new (w : World) (t : TypeId) (cs : Array Value) : Bk w.heap.size t cs (w.alloc (.cells cs t)) := new_block w _
theorem Bk.grownBy (h : Bk g t cs w) {r : Option Nat} (k : w.grownBy w' r) (hr : some g ≠ r) : Bk g t cs w' := (k.block g h.lt hr).trans h
theorem Bk.grows (h : Bk g t cs w) (k : Grows w w') : Bk g t cs w' := (k.block h.lt).trans h
theorem Bk.set_ (h : Bk g t cs w) (i : Nat) (u : Value) : Bk g t (cs.setIfInBounds i u) (w.setCell ⟨g, i, none⟩ u) := by
  unfold Bk at h ⊢
  simp [World.setCell, Array.getElem?_modify, h]
theorem Bk.ne_ {g' : Nat} {t' : TypeId} {cs' : Array Value} (h : Bk g t cs w) (h' : Bk g' t' cs' w) (hne : t ≠ t') : g ≠ g' := by
  rintro rfl
  unfold Bk at h h'
  rw [h] at h'
  injection h' with h'
  injection h' with _ ht
  exact hne ht
end
end Go.Proofs.YtgepbkldgnjpfaaGreatDoor

/- Merged from: Fa1 Tb Stx St1 St2 St3. -/
/- A fact in plain data, and what is wrong with one. -/
namespace Go.Proofs.YtgepbkldgnjpfaaGreatDoor
open Go.RowKit

/-- A fact: its ID, person, kind, first day, end, code, number, text. -/
structure Fa where
  id : Int
  pe : Int
  ki : Int
  fr : Int
  «to» : Int
  co : ByteArray
  nu : Int
  tx : ByteArray

/-- As a value. -/
def valF (f : Fa) : Value := .agg #[.int .u32 f.id, .int .u32 f.pe, .int .i64 f.ki, .int .i64 f.fr, .int .i64 f.to, .string f.co, .int .i64 f.nu, .string f.tx]

/-- A text's bytes. -/
def ls (s : ByteArray) : List UInt8 := s.data.toList
theorem ls_len (s : ByteArray) : (ls s).length = s.size := Array.length_toList

/-- Is a byte one of a name's? -/
def nameC (b : UInt8) : Bool := decide ((97 ≤ b.toNat ∧ b.toNat ≤ 122) ∨ (48 ≤ b.toNat ∧ b.toNat ≤ 57) ∨ b.toNat = 46 ∨ b.toNat = 95 ∨ b.toNat = 45)
/-- Is a text a name? -/
def nameB (l : List UInt8) : Bool := l.all nameC && !(l == []) && !(l == [45]) && decide (l.length ≤ 32)
/-- Has a kind days? Is it the firm's? -/
def daysB (k : Int) : Bool := decide (1 ≤ k ∧ k ≤ 15 ∧ k ≠ 6 ∧ k ≠ 8)
/-- What is wrong with a fact's days. -/
def daysE (f : Fa) : Int :=
  if (f.ki = 18 ∧ f.fr ≠ 0) ∨ f.fr < -25567 ∨ 84005 < f.fr then 15
  else if f.to ≠ 0 ∧ (daysB f.ki = false ∨ f.to ≤ f.fr) then 24
  else if 84006 < f.to then 15 else 0
end Go.Proofs.YtgepbkldgnjpfaaGreatDoor

/- What the library's variables must hold; it stays while what lay below stays. -/
namespace Go.Proofs.YtgepbkldgnjpfaaGreatDoor
open Go.RowKit

/-- The library's variables that the walks ask of. -/
structure Tb (w : World) : Prop where
  ml : ∃ m, w.cell? ⟨5, 0, none⟩ = some (.int .i64 m)
  er : ∃ ev, w.cell? ⟨7, 0, none⟩ = some ev ∧ (ev = .nilIface ∨ ∃ te pe, ev = .iface te pe)
theorem cell_lt {w : World} {p : Addr} {v : Value} (h : w.cell? p = some v) : p.block < w.heap.size := World.block_lt_of_cell? w _ h
theorem Tb.below {w w' : World} (h : Tb w) (hb : Below w.heap.size w w') : Tb w' := by
  obtain ⟨⟨m, hm⟩, ev, he, hv⟩ := h
  exact ⟨⟨m, by rw [hb.cell (cell_lt hm)]; exact hm⟩, ev, by rw [hb.cell (cell_lt he)]; exact he, hv⟩
/-- Below, one behind the other. -/
theorem bTrans {a b c : World} (h : Below a.heap.size a b) (k : Below b.heap.size b c) : Below a.heap.size a c := ⟨k.os.trans h.os, k.tape.trans h.tape, k.output.trans h.output, Nat.le_trans h.size k.size, fun i hi => (k.block i (Nat.lt_of_lt_of_le hi h.size)).trans (h.block i hi)⟩
theorem bDrewN (w : World) (n : Nat) : Below w.heap.size w (w.drewN n) := (Grows.of_drewN w n).below
theorem bDrew (w : World) : Below w.heap.size w w.drew := (Grows.of_drew w).below
theorem bAlloc (w : World) (o : Obj) : Below w.heap.size w (w.alloc o) := (Grows.of_alloc w o).below
end Go.Proofs.YtgepbkldgnjpfaaGreatDoor

/- Texts, byte by byte: what a walk over a text wants. -/
namespace Go.Proofs.YtgepbkldgnjpfaaGreatDoor
open Go.RowKit

/-- A text's byte, as a number. -/
def byteAt (s : ByteArray) (k : Nat) : Int := (((ls s).getD k 0).toNat : Int)
theorem byteAt_bd (s : ByteArray) (k : Nat) : 0 ≤ byteAt s k ∧ byteAt s k ≤ 255 := by
  have := ((ls s).getD k 0).toNat_lt
  unfold byteAt
  omega
theorem run_at {P : Program} (t : TypeId) (h : P.underlying t = some .string) (s : ByteArray) (k : Nat) (hk : k < s.size) (w : World) : (Instr.index t (.string s) (.int .i64 k)).run P w = .ok (.int .u8 (byteAt s k)) w := by
  rw [run_index_string w t s .i64 k h, dif_pos ⟨by omega, by omega⟩]
  have e : ((ls s).getD k 0) = s[k] := by
    unfold ls
    rw [List.getD_eq_getElem?_getD, Array.getElem?_toList, Array.getElem?_eq_getElem (show k < s.data.size from hk)]
    rfl
  unfold byteAt
  rw [e]
  rfl
theorem byteAt_get {s : ByteArray} {k : Nat} (hk : k < s.size) : (ls s)[k]? = some ((ls s).getD k 0) := by
  have : k < (ls s).length := by rw [ls_len]; exact hk
  rw [List.getD_eq_getElem?_getD, List.getElem?_eq_getElem this]
  rfl
theorem byte_some {s : ByteArray} {k : Nat} (hk : k < s.size) : ∃ b : UInt8, (ls s)[k]? = some b ∧ byteAt s k = (b.toNat : Int) := ⟨_, byteAt_get hk, rfl⟩
theorem isEmpty_ls (s : ByteArray) : s.toList.isEmpty = (ls s == []) := by
  rw [ByteArray.toList_eq]
  unfold ls
  cases s.data.toList <;> rfl
theorem all_more {α : Type} {p : α → Bool} {l : List α} {k : Nat} {b : α} (h : (l.take k).all p = true) (hb : l[k]? = some b) (hp : p b = true) : (l.take (k + 1)).all p = true := by
  rw [List.take_add_one, hb]
  simp [h, hp]
theorem all_bad {α : Type} {p : α → Bool} {l : List α} {k : Nat} {b : α} (hb : l[k]? = some b) (hp : p b = false) : l.all p = false := by
  rw [← Bool.not_eq_true, List.all_eq_true]
  intro h
  have := h b (List.mem_of_getElem? hb)
  rw [hp] at this; cases this
theorem nil_iff (s : ByteArray) : ls s = [] ↔ s.size = 0 := by rw [← ls_len, List.length_eq_zero_iff]
/-- A text, held against a constant one: as the walk spells it. -/
theorem beq_ls (s : ByteArray) (l : List UInt8) : (s.toList == l) = decide (ls s = l) := by
  rw [ByteArray.toList_eq]
  unfold ls
  by_cases h : s.data.toList = l
  · simp [h]
  · simp [h]
end Go.Proofs.YtgepbkldgnjpfaaGreatDoor

/- A store in plain lists; small contracts of the store. -/
namespace Go.Proofs.YtgepbkldgnjpfaaGreatDoor
open Go.RowKit Go.Sort

/-- What a slice holds: element i's cells, of 'sz' cells each. -/
def Sl {α : Type} (enc : α → List Value) (sz : Nat) (w : World) (B : Nat) (A : Option Addr) (L : List α) : Prop :=
  L ≠ [] → ∃ b off, A = some ⟨b, off, none⟩ ∧ b < B ∧ ∀ i x, L[i]? = some x → ∀ j u, (enc x)[j]? = some u → w.cell? ⟨b, off + i * sz + j, none⟩ = some u
theorem Sl.below {α : Type} {enc : α → List Value} {sz : Nat} {w w' : World} {A : Option Addr} {L : List α} (h : Sl enc sz w w.heap.size A L) (hb : Below w.heap.size w w') : Sl enc sz w' w'.heap.size A L := fun hl => by
  obtain ⟨b, off, e, hlt, hc⟩ := h hl
  exact ⟨b, off, e, Nat.lt_of_lt_of_le hlt hb.size, fun i x hx j u hu => (hb.cell (p := ⟨b, off + i * sz + j, none⟩) hlt).trans (hc i x hx j u hu)⟩
end Go.Proofs.YtgepbkldgnjpfaaGreatDoor

/- The place of an ID; what is wrong with a Cancel. -/
namespace Go.Proofs.YtgepbkldgnjpfaaGreatDoor
open Go.RowKit Go.Sort

end Go.Proofs.YtgepbkldgnjpfaaGreatDoor

/- One fact more behind a copy of a store's facts. -/
namespace Go.Proofs.YtgepbkldgnjpfaaGreatDoor
open Go.RowKit Go.Sort

end Go.Proofs.YtgepbkldgnjpfaaGreatDoor

/- Merged from: Num1 Dec Tens Cut1 Fa2 Fa3. -/
/- Numbers in tens, in plain lists of bytes. -/
namespace Go.Proofs.YtgepbkldgnjpfaaGreatDoor
open Go.RowKit

end Go.Proofs.YtgepbkldgnjpfaaGreatDoor

/- A number's digits, and the number of digits. -/
namespace Go.Proofs.YtgepbkldgnjpfaaGreatDoor

theorem dec_small {m : Nat} (h : m < 10) : Lib.decDigits m = [UInt8.ofNat (48 + m % 10)] := by rw [Lib.decDigits, dif_pos h, Nat.mod_eq_of_lt h]
theorem dec_step {m : Nat} (h : ¬ m < 10) : Lib.decDigits m = Lib.decDigits (m / 10) ++ [UInt8.ofNat (48 + m % 10)] := by rw [Lib.decDigits, dif_neg h]
theorem dec_len : ∀ (k n : Nat), n < 10 ^ (k + 1) → (Lib.decDigits n).length ≤ k + 1
  | 0, n, h => by rw [dec_small (by omega)]; simp
  | k + 1, n, h => by
    by_cases h10 : n < 10
    · rw [dec_small h10]; simp
    · rw [dec_step h10, List.length_append]
      have := dec_len k (n / 10) (by rw [Nat.pow_succ] at h; omega)
      simp; omega
end Go.Proofs.YtgepbkldgnjpfaaGreatDoor

/- Numbers in tens: the program's and the reference's reading are one. -/
namespace Go.Proofs.YtgepbkldgnjpfaaGreatDoor
open Go.RowKit

end Go.Proofs.YtgepbkldgnjpfaaGreatDoor

/- A text cut at a byte: the library's words are the plain ones. -/
namespace Go.Proofs.YtgepbkldgnjpfaaGreatDoor

end Go.Proofs.YtgepbkldgnjpfaaGreatDoor

/- Small contracts of the layer of facts: names, plain texts, kinds. -/
namespace Go.Proofs.YtgepbkldgnjpfaaGreatDoor
open Go.RowKit

theorem fc_known (k : Int) (w : World) : Calls Tryz.prog 134 #[.int .i64 k] w fun e w' => e = .returned (.bool (decide (1 ≤ k ∧ k ≤ 18))) ∧ w = w' := by
  by_cases h1 : 1 ≤ k
  · go_enter Tryz.func134, Tryz.ntmps134
    go_wp2
    go_ret
    exact ⟨ret_b (by simp [h1]), rfl⟩
  · go_enter Tryz.func134, Tryz.ntmps134
    go_wp2
    go_ret
    exact ⟨ret_b (by simp; omega), rfl⟩
theorem fc_empty (s : ByteArray) (w : World) : Calls Tryz.prog 164 #[.string s] w fun e w' => e = .returned (.bool (ls s == [])) ∧ w = w' := by
  go_enter Tryz.func164, Tryz.ntmps164
  go_wp2
  go_ret
  exact ⟨ret_b (isEmpty_ls s), rfl⟩

end Go.Proofs.YtgepbkldgnjpfaaGreatDoor

/- A name: the program's and the reference's test are one; the reference's plain texts. -/
namespace Go.Proofs.YtgepbkldgnjpfaaGreatDoor
open Go.RowKit
theorem nameB_of {l : List UInt8} (h : l.all nameC = true) : nameB l = (!(l == []) && !(l == [45]) && decide (l.length ≤ 32)) := by unfold nameB; rw [h]; rfl
theorem nameB_bad {l : List UInt8} (h : l.all nameC = false) : nameB l = false := by unfold nameB; rw [h]; rfl
theorem toList_ls (s : ByteArray) : s.toList = ls s := by rw [ByteArray.toList_eq]; rfl

end Go.Proofs.YtgepbkldgnjpfaaGreatDoor

/- Merged from: Rat1 Cen1 Cen2 Rat2 Cut2 Rat3. -/
/- Rates: digits, values, and the laws of a rate's text. -/
namespace Go.Proofs.YtgepbkldgnjpfaaGreatDoor
open Go.RowKit

end Go.Proofs.YtgepbkldgnjpfaaGreatDoor

/- Amounts' texts, in plain lists of bytes. -/
namespace Go.Proofs.YtgepbkldgnjpfaaGreatDoor

/-- An amount's text. -/
def textC (c : Int) : List UInt8 := if c.natAbs ≤ 1125899906842624 then (if c < 0 then [45] else []) ++ (Lib.decDigits (c.natAbs / 100) ++ 46 :: (Lib.decDigits (c.natAbs % 100 / 10) ++ Lib.decDigits (c.natAbs % 100 % 10))) else []
end Go.Proofs.YtgepbkldgnjpfaaGreatDoor

/- Amounts: fits, digits, text. -/
namespace Go.Proofs.YtgepbkldgnjpfaaGreatDoor
open Go.RowKit

theorem bytes_app (a b : List UInt8) : (⟨a.toArray⟩ : ByteArray) ++ ⟨b.toArray⟩ = ⟨(a ++ b).toArray⟩ := ByteArray.mk_append_mk _ _
theorem size_bytes (l : List UInt8) : (⟨l.toArray⟩ : ByteArray).size = l.length := by simp [ByteArray.size]
/-- string(rune) of a digit. -/
theorem rune_string (n : Int) (h : 0 ≤ n ∧ n < 10) (w : World) : (convert 21 9 (.int .i32 (48 + n))).run Tryz.prog w = .ok (.string ⟨[UInt8.ofNat (48 + n.toNat % 10)].toArray⟩) w := by
  have : n = 0 ∨ n = 1 ∨ n = 2 ∨ n = 3 ∨ n = 4 ∨ n = 5 ∨ n = 6 ∨ n = 7 ∨ n = 8 ∨ n = 9 := by omega
  rcases this with rfl | rfl | rfl | rfl | rfl | rfl | rfl | rfl | rfl | rfl <;> (show Sem.run _ _ _ = _; kernel_rfl)

theorem ce_Fits (c : Int) (w : World) : Calls Tryz.prog 22 #[.int .i64 c] w fun e w' => e = .returned (.bool (decide (c.natAbs ≤ 1125899906842624))) ∧ w = w' := by
  by_cases h1 : -1125899906842624 ≤ c
  · go_enter Tryz.func22, Tryz.ntmps22
    go_wp2
    go_ret
    exact ⟨ret_b (decide_eq_decide.2 (by omega)), rfl⟩
  · go_enter Tryz.func22, Tryz.ntmps22
    go_wp2
    go_ret
    exact ⟨ret_b (decide_eq_false (by omega)).symm, rfl⟩

set_option maxHeartbeats 1000000 in
theorem ce_whole (n : Nat) (w : World) (hn : n ≤ 1125899906842624) : Calls Tryz.prog 52 #[.int .i64 n] w fun e w' => e = .returned (.string ⟨(Lib.decDigits n).toArray⟩) ∧ w = w' := by
  have HL : Hid ((Lib.decDigits n).length ≤ 16) := Lib.hid (dec_len 15 n (by omega))
  go_enter Tryz.func52, Tryz.ntmps52
  go_wp2
  go_loop [0, 3] (fun nv sv => ∃ (m : Nat) (S : List UInt8), nv = .int .i64 m ∧ sv = .string ⟨S.toArray⟩ ∧ m ≤ n ∧ S.length ≤ 16 ∧ Hid (Lib.decDigits n = Lib.decDigits m ++ S)) (fun nv _ => (intOf nv).toNat)
  case atStart => exact ⟨n, [], rfl, rfl, Nat.le_refl _, by simp, Lib.hid (by simp)⟩
  case round =>
    obtain ⟨m, S, rfl, rfl, hm, hS, HR⟩ := hrel
    have hsz := size_bytes S
    by_cases h : 9 < (m : Int)
    · have hcv := rune_string ((m : Int) % 10) (by omega)
      have e1 : ((m : Int) % 10).toNat % 10 = m % 10 := by omega
      rw [e1] at hcv
      have HR2 : Hid (Lib.decDigits n = Lib.decDigits (m / 10) ++ (UInt8.ofNat (48 + m % 10) :: S)) := Lib.hid (by rw [HR.out, dec_step (m := m) (by omega)]; simp)
      have hS2 : (UInt8.ofNat (48 + m % 10) :: S).length ≤ 16 := by have := HL.out; rw [HR2.out] at this; simp at this ⊢; omega
      have HA := Lib.hid (bytes_app [UInt8.ofNat (48 + m % 10)] S)
      clear e1
      generalize UInt8.ofNat (48 + m % 10) = c at *
      have hz := size_bytes [c]
      go_wp2
      exact ⟨⟨m / 10, c :: S, by go_num, congrArg Value.string HA.out, by omega, hS2, HR2⟩, by simp [intOf]; omega⟩
    · have hcv := rune_string (m : Int) (by omega)
      have e1 : ((m : Int)).toNat % 10 = m % 10 := by omega
      rw [e1] at hcv
      have HR2 : Hid (Lib.decDigits n = UInt8.ofNat (48 + m % 10) :: S) := Lib.hid (by rw [HR.out, dec_small (m := m) (by omega)]; simp)
      have HA := Lib.hid (bytes_app [UInt8.ofNat (48 + m % 10)] S)
      clear e1
      generalize UInt8.ofNat (48 + m % 10) = c at *
      go_wp2
      go_ret
      exact ⟨by rw [HR2.out]; exact congrArg (fun s => Ending.returned (Value.string s)) HA.out, rfl⟩

theorem ce_wholeAt (n : Nat) (hn : n ≤ 1125899906842624) (x : Int) (hx : x = n) (w : World) : Calls Tryz.prog 52 #[.int .i64 x] w fun e w' => e = .returned (.string ⟨(Lib.decDigits n).toArray⟩) ∧ w = w' := by
  subst hx
  exact ce_whole n w hn
theorem cat5 (s a b c : List UInt8) : ((((⟨s.toArray⟩ : ByteArray) ++ ⟨a.toArray⟩) ++ ⟨#[46]⟩) ++ ⟨b.toArray⟩) ++ ⟨c.toArray⟩ = ⟨(s ++ (a ++ 46 :: (b ++ c))).toArray⟩ := by
  have : (⟨#[46]⟩ : ByteArray) = ⟨[46].toArray⟩ := rfl
  rw [this]
  simp only [bytes_app]
  simp

set_option maxHeartbeats 1000000 in
theorem ce_Text (c : Int) (w : World) : Calls Tryz.prog 29 #[.int .i64 c] w fun e w' => e = .returned (.string ⟨(textC c).toArray⟩) ∧ w = w' := by
  by_cases hf : c.natAbs ≤ 1125899906842624
  · obtain ⟨m, hm⟩ : ∃ m : Nat, c.natAbs = m := ⟨_, rfl⟩
    have HF : Hid (decide (c.natAbs ≤ 1125899906842624) = true) := Lib.hid (decide_eq_true hf)
    have HW1 := Lib.hid (ce_wholeAt (m / 100) (by omega))
    have HW2 := Lib.hid (ce_wholeAt (m % 100 / 10) (by omega))
    have HW3 := Lib.hid (ce_wholeAt (m % 100 % 10) (by omega))
    have HT : Hid (textC c = (if c < 0 then [45] else []) ++ (Lib.decDigits (m / 100) ++ 46 :: (Lib.decDigits (m % 100 / 10) ++ Lib.decDigits (m % 100 % 10)))) := Lib.hid (by unfold textC; rw [hm, if_pos (by omega)])
    have l1 := dec_len 15 (m / 100) (by omega)
    have l2 := dec_len 0 (m % 100 / 10) (by omega)
    have l3 := dec_len 0 (m % 100 % 10) (by omega)
    have z1 := size_bytes (Lib.decDigits (m / 100))
    have z2 := size_bytes (Lib.decDigits (m % 100 / 10))
    have z3 := size_bytes (Lib.decDigits (m % 100 % 10))
    have hmm : m ≤ 1125899906842624 := by omega
    generalize Lib.decDigits (m / 100) = A at *
    generalize Lib.decDigits (m % 100 / 10) = B at *
    generalize Lib.decDigits (m % 100 % 10) = C at *
    by_cases h0 : c < 0
    · have hcm : c = -(m : Int) := by omega
      have HT2 : Hid (textC c = [45] ++ (A ++ 46 :: (B ++ C))) := Lib.hid (by rw [HT.out, if_pos h0])
      have HC := Lib.hid (cat5 [45] A B C)
      clear HT hm
      subst hcm
      go_enter Tryz.func29, Tryz.ntmps29
      go_wp2_with fail
      refine (ce_Fits _ _).mono ?_
      rintro e w1 ⟨rfl, rfl⟩
      rw [HF.out]
      go_wp2_with fail
      refine (HW1.out _ (by omega) _).mono ?_
      rintro e w1 ⟨rfl, rfl⟩
      go_wp2_with fail
      refine (HW2.out _ (by omega) _).mono ?_
      rintro e w1 ⟨rfl, rfl⟩
      go_wp2_with fail
      refine (HW3.out _ (by omega) _).mono ?_
      rintro e w1 ⟨rfl, rfl⟩
      go_wp2
      go_ret
      exact ⟨by rw [HT2.out, ← HC.out]; rfl, rfl⟩
    · have hcm : c = (m : Int) := by omega
      have HT2 : Hid (textC c = [] ++ (A ++ 46 :: (B ++ C))) := Lib.hid (by rw [HT.out, if_neg h0])
      have HC := Lib.hid (cat5 [] A B C)
      clear HT hm
      subst hcm
      go_enter Tryz.func29, Tryz.ntmps29
      go_wp2_with fail
      refine (ce_Fits _ _).mono ?_
      rintro e w1 ⟨rfl, rfl⟩
      rw [HF.out]
      go_wp2_with fail
      refine (HW1.out _ (by omega) _).mono ?_
      rintro e w1 ⟨rfl, rfl⟩
      go_wp2_with fail
      refine (HW2.out _ (by omega) _).mono ?_
      rintro e w1 ⟨rfl, rfl⟩
      go_wp2_with fail
      refine (HW3.out _ (by omega) _).mono ?_
      rintro e w1 ⟨rfl, rfl⟩
      go_wp2
      go_ret
      exact ⟨by rw [HT2.out, ← HC.out]; rfl, rfl⟩
  · have HF : Hid (decide (c.natAbs ≤ 1125899906842624) = false) := Lib.hid (decide_eq_false hf)
    have HT : Hid (textC c = []) := Lib.hid (by unfold textC; rw [if_neg hf])
    clear hf
    go_enter Tryz.func29, Tryz.ntmps29
    go_wp2_with fail
    refine (ce_Fits _ _).mono ?_
    rintro e w1 ⟨rfl, rfl⟩
    rw [HF.out]
    go_wp2
    go_ret
    exact ⟨by rw [HT.out]; rfl, rfl⟩
end Go.Proofs.YtgepbkldgnjpfaaGreatDoor

/- Rates: the program's reading of a text. -/
namespace Go.Proofs.YtgepbkldgnjpfaaGreatDoor
open Go.RowKit Go.Sort

end Go.Proofs.YtgepbkldgnjpfaaGreatDoor

/- Cutting texts: the library's contracts at one byte, in plain words. -/
namespace Go.Proofs.YtgepbkldgnjpfaaGreatDoor
open Go.RowKit

end Go.Proofs.YtgepbkldgnjpfaaGreatDoor

/- Rates: the program's reading, walked. -/
namespace Go.Proofs.YtgepbkldgnjpfaaGreatDoor
open Go.RowKit Go.Sort

end Go.Proofs.YtgepbkldgnjpfaaGreatDoor

/- Merged from: Abs Rul. -/
/- Absences' codes; what a kind asks of a text. -/
namespace Go.Proofs.YtgepbkldgnjpfaaGreatDoor
open Go.RowKit Go.Sort

end Go.Proofs.YtgepbkldgnjpfaaGreatDoor

/- The rules of the kinds. -/
namespace Go.Proofs.YtgepbkldgnjpfaaGreatDoor
open Go.RowKit Go.Sort

/-- A kind's rule: its name, the firm's?, days?, its code, least, most, its text. -/
def ruleV (k : Int) : Array Value :=
  if k = 1 then #[.string ⟨#[101, 109, 112, 108, 111, 121]⟩, .bool false, .bool true, .func (.func 164) #[] #[], .int .i64 0, .int .i64 1, .func (.func 165) #[] #[]]
  else if k = 2 then #[.string ⟨#[115, 97, 108, 97, 114, 121]⟩, .bool false, .bool true, .func (.func 164) #[] #[], .int .i64 0, .int .i64 1125899906842624, .func (.func 165) #[] #[]]
  else if k = 3 then #[.string ⟨#[112, 97, 114, 116]⟩, .bool false, .bool true, .func (.func 164) #[] #[], .int .i64 0, .int .i64 1000000, .func (.func 165) #[] #[]]
  else if k = 4 then #[.string ⟨#[104, 111, 117, 114, 115]⟩, .bool false, .bool true, .func (.func 164) #[] #[], .int .i64 0, .int .i64 0, .func (.func 166) #[] #[]]
  else if k = 5 then #[.string ⟨#[99, 111, 115, 116]⟩, .bool false, .bool true, .func (.func 164) #[] #[], .int .i64 0, .int .i64 0, .func (.func 167) #[] #[]]
  else if k = 6 then #[.string ⟨#[115, 104, 101, 101, 116]⟩, .bool false, .bool false, .func (.func 158) #[] #[], .int .i64 0, .int .i64 1440, .func (.func 169) #[] #[]]
  else if k = 7 then #[.string ⟨#[97, 98, 115, 101, 110, 116]⟩, .bool false, .bool true, .func (.func 170) #[] #[], .int .i64 0, .int .i64 1000000, .func (.func 165) #[] #[]]
  else if k = 8 then #[.string ⟨#[98, 111, 110, 117, 115]⟩, .bool false, .bool false, .func (.func 159) #[] #[], .int .i64 (-1125899906842624), .int .i64 1125899906842624, .func (.func 165) #[] #[]]
  else if k = 9 then #[.string ⟨#[101, 110, 114, 111, 108]⟩, .bool false, .bool true, .func (.func 159) #[] #[], .int .i64 0, .int .i64 1125899906842624, .func (.func 165) #[] #[]]
  else if k = 10 then #[.string ⟨#[100, 101, 100, 117, 99, 116]⟩, .bool false, .bool true, .func (.func 159) #[] #[], .int .i64 0, .int .i64 1125899906842624, .func (.func 165) #[] #[]]
  else if k = 11 then #[.string ⟨#[99, 97, 114, 100]⟩, .bool false, .bool true, .func (.func 164) #[] #[], .int .i64 0, .int .i64 1125899906842624, .func (.func 160) #[] #[]]
  else if k = 12 then #[.string ⟨#[97, 116, 116, 97, 99, 104]⟩, .bool false, .bool true, .func (.func 159) #[] #[], .int .i64 0, .int .i64 1125899906842624, .func (.func 171) #[] #[]]
  else if k = 13 then #[.string ⟨#[98, 97, 110, 107]⟩, .bool false, .bool true, .func (.func 164) #[] #[], .int .i64 0, .int .i64 0, .func (.func 160) #[] #[]]
  else if k = 14 then #[.string ⟨#[114, 117, 108, 101]⟩, .bool true, .bool true, .func (.func 159) #[] #[], .int .i64 (-1125899906842624), .int .i64 1125899906842624, .func (.func 161) #[] #[]]
  else if k = 15 then #[.string ⟨#[101, 108, 101, 109, 101, 110, 116]⟩, .bool true, .bool true, .func (.func 159) #[] #[], .int .i64 0, .int .i64 0, .func (.func 163) #[] #[]]
  else if k = 16 then #[.string ⟨#[104, 111, 108, 105, 100, 97, 121]⟩, .bool true, .bool false, .func (.func 164) #[] #[], .int .i64 0, .int .i64 0, .func (.func 165) #[] #[]]
  else if k = 17 then #[.string ⟨#[103, 114, 97, 110, 116]⟩, .bool false, .bool false, .func (.func 164) #[] #[], .int .i64 0, .int .i64 100000, .func (.func 165) #[] #[]]
  else if k = 18 then #[.string ⟨#[99, 97, 110, 99, 101, 108]⟩, .bool true, .bool false, .func (.func 164) #[] #[], .int .i64 1, .int .i64 4096, .func (.func 165) #[] #[]]
  else #[.string ⟨#[]⟩, .bool false, .bool false, .nilFunc, .int .i64 0, .int .i64 0, .nilFunc]
def rulesA : Array Value := #[.string ⟨#[]⟩, .bool false, .bool false, .nilFunc, .int .i64 0, .int .i64 0, .nilFunc, .string ⟨#[101, 109, 112, 108, 111, 121]⟩, .bool false, .bool true, .func (.func 164) #[] #[], .int .i64 0, .int .i64 1, .func (.func 165) #[] #[], .string ⟨#[115, 97, 108, 97, 114, 121]⟩, .bool false, .bool true, .func (.func 164) #[] #[], .int .i64 0, .int .i64 1125899906842624, .func (.func 165) #[] #[], .string ⟨#[112, 97, 114, 116]⟩, .bool false, .bool true, .func (.func 164) #[] #[], .int .i64 0, .int .i64 1000000, .func (.func 165) #[] #[], .string ⟨#[104, 111, 117, 114, 115]⟩, .bool false, .bool true, .func (.func 164) #[] #[], .int .i64 0, .int .i64 0, .func (.func 166) #[] #[], .string ⟨#[99, 111, 115, 116]⟩, .bool false, .bool true, .func (.func 164) #[] #[], .int .i64 0, .int .i64 0, .func (.func 167) #[] #[], .string ⟨#[115, 104, 101, 101, 116]⟩, .bool false, .bool false, .func (.func 158) #[] #[], .int .i64 0, .int .i64 1440, .func (.func 169) #[] #[], .string ⟨#[97, 98, 115, 101, 110, 116]⟩, .bool false, .bool true, .func (.func 170) #[] #[], .int .i64 0, .int .i64 1000000, .func (.func 165) #[] #[], .string ⟨#[98, 111, 110, 117, 115]⟩, .bool false, .bool false, .func (.func 159) #[] #[], .int .i64 (-1125899906842624), .int .i64 1125899906842624, .func (.func 165) #[] #[], .string ⟨#[101, 110, 114, 111, 108]⟩, .bool false, .bool true, .func (.func 159) #[] #[], .int .i64 0, .int .i64 1125899906842624, .func (.func 165) #[] #[], .string ⟨#[100, 101, 100, 117, 99, 116]⟩, .bool false, .bool true, .func (.func 159) #[] #[], .int .i64 0, .int .i64 1125899906842624, .func (.func 165) #[] #[], .string ⟨#[99, 97, 114, 100]⟩, .bool false, .bool true, .func (.func 164) #[] #[], .int .i64 0, .int .i64 1125899906842624, .func (.func 160) #[] #[], .string ⟨#[97, 116, 116, 97, 99, 104]⟩, .bool false, .bool true, .func (.func 159) #[] #[], .int .i64 0, .int .i64 1125899906842624, .func (.func 171) #[] #[], .string ⟨#[98, 97, 110, 107]⟩, .bool false, .bool true, .func (.func 164) #[] #[], .int .i64 0, .int .i64 0, .func (.func 160) #[] #[], .string ⟨#[114, 117, 108, 101]⟩, .bool true, .bool true, .func (.func 159) #[] #[], .int .i64 (-1125899906842624), .int .i64 1125899906842624, .func (.func 161) #[] #[], .string ⟨#[101, 108, 101, 109, 101, 110, 116]⟩, .bool true, .bool true, .func (.func 159) #[] #[], .int .i64 0, .int .i64 0, .func (.func 163) #[] #[], .string ⟨#[104, 111, 108, 105, 100, 97, 121]⟩, .bool true, .bool false, .func (.func 164) #[] #[], .int .i64 0, .int .i64 0, .func (.func 165) #[] #[], .string ⟨#[103, 114, 97, 110, 116]⟩, .bool false, .bool false, .func (.func 164) #[] #[], .int .i64 0, .int .i64 100000, .func (.func 165) #[] #[], .string ⟨#[99, 97, 110, 99, 101, 108]⟩, .bool true, .bool false, .func (.func 164) #[] #[], .int .i64 1, .int .i64 4096, .func (.func 165) #[] #[]]
theorem rules_at (k : Int) (h1 : 1 ≤ k) (h2 : k ≤ 18) (w : World) : (Instr.index 195 (.agg rulesA) (.int .i64 k)).run Tryz.prog w = .ok (.agg (ruleV k)) w := by
  have : k = 1 ∨ k = 2 ∨ k = 3 ∨ k = 4 ∨ k = 5 ∨ k = 6 ∨ k = 7 ∨ k = 8 ∨ k = 9 ∨ k = 10 ∨ k = 11 ∨ k = 12 ∨ k = 13 ∨ k = 14 ∨ k = 15 ∨ k = 16 ∨ k = 17 ∨ k = 18 := by omega
  rcases this with rfl | rfl | rfl | rfl | rfl | rfl | rfl | rfl | rfl | rfl | rfl | rfl | rfl | rfl | rfl | rfl | rfl | rfl <;> (show Sem.run _ _ _ = _; kernel_rfl)
theorem setRow_below (w : World) (o : Obj) (cs : Array Value) : Below w.heap.size w ((w.alloc o).setRow w.heap.size cs) := by
  have h := bAlloc w o
  refine ⟨h.os, h.tape, h.output, by simp [World.setRow], fun k hk => ?_⟩
  rw [← h.block k hk]
  unfold World.setRow
  simp only [Array.getElem?_modify]
  rw [if_neg (by omega)]

set_option maxHeartbeats 4000000 in
set_option maxRecDepth 100000 in
theorem fc_rules (w : World) : Calls Tryz.prog 135 #[] w fun e w' => e = .returned (.agg rulesA) ∧ Below w.heap.size w w' := by
  go_enter Tryz.func135, Tryz.ntmps135
  go_wp2_with (refine wpList_store_row rfl 195 (.tmp 0) (.tmp 28) rfl w.heap.size rulesA rfl rfl _ _ (new_block w _) (by kernel_rfl) (by kernel_rfl) (by kernel_rfl) ?_)
  exact bodyPost_ret (v := .agg rulesA) (results_cell_row Tryz.results135 _ _ w.heap.size _ rulesA (0, 0) _ rfl (setRow_heap _ _ _ _ _ _ (new_block w _)) Tryz.underlying195 rfl (by kernel_rfl)) rfl ⟨rfl, setRow_below w _ _⟩
end Go.Proofs.YtgepbkldgnjpfaaGreatDoor

/- Merged from: Chk Chk3. -/
/- What is wrong with a fact: the program's Check. -/
namespace Go.Proofs.YtgepbkldgnjpfaaGreatDoor
open Go.RowKit Go.Sort

theorem same_below {P : Program} {n : Nat} {args : Array Value} {W : World} {v : Value} (h : Calls P n args W fun e w' => e = .returned v ∧ W = w') : Calls P n args W fun e w' => e = .returned v ∧ Below W.heap.size W w' := h.mono fun _ _ ⟨he, hw⟩ => ⟨he, by subst hw; exact Below.refl _ _⟩
set_option maxHeartbeats 2000000 in
theorem fc_days (f : Fa) (nm : ByteArray) (fi : Bool) (cf tf : Nat) (lo hi : Int) (w : World) :
    Calls Tryz.prog 136 #[valF f, .agg #[.string nm, .bool fi, .bool (daysB f.ki), .func (.func cf) #[] #[], .int .i64 lo, .int .i64 hi, .func (.func tf) #[] #[]]] w fun e w' => e = .returned (.int .i64 (daysE f)) ∧ Below w.heap.size w w' := by
  unfold valF
  have HG : Hid (∀ o p, Below w.heap.size w ((w.alloc o).alloc p)) := Lib.hid (fun o p => bTrans (bAlloc w o) (bAlloc _ p))
  obtain ⟨db, hdb⟩ : ∃ b, daysB f.ki = b := ⟨_, rfl⟩
  have HD : Hid (daysE f = if (f.ki = 18 ∧ f.fr ≠ 0) ∨ f.fr < -25567 ∨ 84005 < f.fr then 15 else if f.to ≠ 0 ∧ (db = false ∨ f.to ≤ f.fr) then 24 else if 84006 < f.to then 15 else 0) := Lib.hid (by unfold daysE; rw [hdb])
  rw [hdb]
  clear hdb
  by_cases hk : f.ki = 18
  · have bk : (f.ki == 18) = true := beq_iff_eq.2 hk
    have HK := Lib.hid hk
    clear hk
    by_cases hfr : f.fr = 0
    · have bf : (f.fr != 0) = false := by rw [hfr]; rfl
      have HF0 := Lib.hid hfr
      have hlo : ¬ f.fr < -25567 := by omega
      have hhi : ¬ 84005 < f.fr := by omega
      clear hfr
      have HN1 : Hid (¬ ((f.ki = 18 ∧ f.fr ≠ 0) ∨ f.fr < -25567 ∨ 84005 < f.fr)) := Lib.hid (fun h => h.elim (fun h => h.2 HF0.out) (fun h => h.elim hlo hhi))
      by_cases ht : f.to = 0
      · have bt : (f.to != 0) = false := by rw [ht]; rfl
        have HT0 := Lib.hid ht
        have hg : ¬ 84006 < f.to := by omega
        clear ht
        have L : Hid (daysE f = 0) := Lib.hid (by rw [HD.out]; rw [if_neg HN1.out, if_neg (fun h => h.1 HT0.out), if_neg (by omega)])
        go_enter Tryz.func136, Tryz.ntmps136
        go_wp2
        go_ret
        exact ⟨ret_i L.out.symm, HG.out _ _⟩
      have bt : (f.to != 0) = true := bne_iff_ne.2 ht
      have HT0 := Lib.hid ht
      clear ht
      cases db with
      | false =>
        have L : Hid (daysE f = 24) := Lib.hid (by rw [HD.out]; rw [if_neg HN1.out, if_pos ⟨HT0.out, .inl rfl⟩])
        go_enter Tryz.func136, Tryz.ntmps136
        go_wp2
        go_ret
        exact ⟨ret_i L.out.symm, HG.out _ _⟩
      | true =>
        by_cases hle : f.to ≤ f.fr
        · skip
          have L : Hid (daysE f = 24) := Lib.hid (by rw [HD.out]; rw [if_neg HN1.out, if_pos ⟨HT0.out, .inr hle⟩])
          go_enter Tryz.func136, Tryz.ntmps136
          go_wp2
          go_ret
          exact ⟨ret_i L.out.symm, HG.out _ _⟩
        by_cases hg : 84006 < f.to
        · skip
          have L : Hid (daysE f = 15) := Lib.hid (by rw [HD.out]; rw [if_neg HN1.out, if_neg (fun h => h.2.elim (fun h => by cases h) hle), if_pos hg])
          go_enter Tryz.func136, Tryz.ntmps136
          go_wp2
          go_ret
          exact ⟨ret_i L.out.symm, HG.out _ _⟩
        have L : Hid (daysE f = 0) := Lib.hid (by rw [HD.out]; rw [if_neg HN1.out, if_neg (fun h => h.2.elim (fun h => by cases h) hle), if_neg hg])
        go_enter Tryz.func136, Tryz.ntmps136
        go_wp2
        go_ret
        exact ⟨ret_i L.out.symm, HG.out _ _⟩
    · have bf : (f.fr != 0) = true := bne_iff_ne.2 hfr
      have HF0 := Lib.hid hfr
      clear hfr
      have L : Hid (daysE f = 15) := Lib.hid (by rw [HD.out]; rw [if_pos (.inl ⟨HK.out, HF0.out⟩)])
      go_enter Tryz.func136, Tryz.ntmps136
      go_wp2
      go_ret
      exact ⟨ret_i L.out.symm, HG.out _ _⟩
  · have bk : (f.ki == 18) = false := beq_eq_false_iff_ne.2 hk
    have HK := Lib.hid hk
    clear hk
    by_cases hlo : f.fr < -25567
    · skip
      have L : Hid (daysE f = 15) := Lib.hid (by rw [HD.out]; rw [if_pos (.inr (.inl hlo))])
      go_enter Tryz.func136, Tryz.ntmps136
      go_wp2
      go_ret
      exact ⟨ret_i L.out.symm, HG.out _ _⟩
    by_cases hhi : 84005 < f.fr
    · skip
      have L : Hid (daysE f = 15) := Lib.hid (by rw [HD.out]; rw [if_pos (.inr (.inr hhi))])
      go_enter Tryz.func136, Tryz.ntmps136
      go_wp2
      go_ret
      exact ⟨ret_i L.out.symm, HG.out _ _⟩
    have HN1 : Hid (¬ ((f.ki = 18 ∧ f.fr ≠ 0) ∨ f.fr < -25567 ∨ 84005 < f.fr)) := Lib.hid (fun h => h.elim (fun h => HK.out h.1) (fun h => h.elim hlo hhi))
    by_cases ht : f.to = 0
    · have bt : (f.to != 0) = false := by rw [ht]; rfl
      have HT0 := Lib.hid ht
      have hg : ¬ 84006 < f.to := by omega
      clear ht
      have L : Hid (daysE f = 0) := Lib.hid (by rw [HD.out]; rw [if_neg HN1.out, if_neg (fun h => h.1 HT0.out), if_neg (by omega)])
      go_enter Tryz.func136, Tryz.ntmps136
      go_wp2
      go_ret
      exact ⟨ret_i L.out.symm, HG.out _ _⟩
    have bt : (f.to != 0) = true := bne_iff_ne.2 ht
    have HT0 := Lib.hid ht
    clear ht
    cases db with
    | false =>
      have L : Hid (daysE f = 24) := Lib.hid (by rw [HD.out]; rw [if_neg HN1.out, if_pos ⟨HT0.out, .inl rfl⟩])
      go_enter Tryz.func136, Tryz.ntmps136
      go_wp2
      go_ret
      exact ⟨ret_i L.out.symm, HG.out _ _⟩
    | true =>
      by_cases hle : f.to ≤ f.fr
      · skip
        have L : Hid (daysE f = 24) := Lib.hid (by rw [HD.out]; rw [if_neg HN1.out, if_pos ⟨HT0.out, .inr hle⟩])
        go_enter Tryz.func136, Tryz.ntmps136
        go_wp2
        go_ret
        exact ⟨ret_i L.out.symm, HG.out _ _⟩
      by_cases hg : 84006 < f.to
      · skip
        have L : Hid (daysE f = 15) := Lib.hid (by rw [HD.out]; rw [if_neg HN1.out, if_neg (fun h => h.2.elim (fun h => by cases h) hle), if_pos hg])
        go_enter Tryz.func136, Tryz.ntmps136
        go_wp2
        go_ret
        exact ⟨ret_i L.out.symm, HG.out _ _⟩
      have L : Hid (daysE f = 0) := Lib.hid (by rw [HD.out]; rw [if_neg HN1.out, if_neg (fun h => h.2.elim (fun h => by cases h) hle), if_neg hg])
      go_enter Tryz.func136, Tryz.ntmps136
      go_wp2
      go_ret
      exact ⟨ret_i L.out.symm, HG.out _ _⟩
end Go.Proofs.YtgepbkldgnjpfaaGreatDoor

/- What is wrong with a fact: the program's Check, walked. -/
namespace Go.Proofs.YtgepbkldgnjpfaaGreatDoor
open Go.RowKit Go.Sort

theorem ruleNew {wa w4 : World} (h : Below wa.drew.heap.size wa.drew w4) (nm : ByteArray) (fi da : Bool) (cf tf : Nat) (lo hi : Int) :
    Bk w4.heap.size 194 #[.string nm, .bool fi, .bool da, .func (.func cf) #[] #[], .int .i64 lo, .int .i64 hi, .func (.func tf) #[] #[]] (w4.alloc (.cells #[.string nm, .bool fi, .bool da, .func (.func cf) #[] #[], .int .i64 lo, .int .i64 hi, .func (.func tf) #[] #[]] 194)) ∧ Below wa.heap.size wa (w4.alloc (.cells #[.string nm, .bool fi, .bool da, .func (.func cf) #[] #[], .int .i64 lo, .int .i64 hi, .func (.func tf) #[] #[]] 194)) :=
  ⟨Bk.new w4 _ _, bTrans (bDrew wa) (bTrans h (bAlloc w4 _))⟩
theorem rule7 {g B : Nat} {w0 w4 : World} (h : Bk g 194 #[.string ⟨#[]⟩, .bool false, .bool false, .nilFunc, .int .i64 0, .int .i64 0, .nilFunc] w4) (k : Below B w0 w4) (hB : B ≤ g) (nm : ByteArray) (fi da : Bool) (cf tf : Nat) (lo hi : Int) :
    Bk g 194 #[.string nm, .bool fi, .bool da, .func (.func cf) #[] #[], .int .i64 lo, .int .i64 hi, .func (.func tf) #[] #[]] (((((((w4.setCell ⟨g, 0, none⟩ (.string nm)).setCell ⟨g, 1, none⟩ (.bool fi)).setCell ⟨g, 2, none⟩ (.bool da)).setCell ⟨g, 3, none⟩ (.func (.func cf) #[] #[])).setCell ⟨g, 4, none⟩ (.int .i64 lo)).setCell ⟨g, 5, none⟩ (.int .i64 hi)).setCell ⟨g, 6, none⟩ (.func (.func tf) #[] #[])) ∧ Below B w0 (((((((w4.setCell ⟨g, 0, none⟩ (.string nm)).setCell ⟨g, 1, none⟩ (.bool fi)).setCell ⟨g, 2, none⟩ (.bool da)).setCell ⟨g, 3, none⟩ (.func (.func cf) #[] #[])).setCell ⟨g, 4, none⟩ (.int .i64 lo)).setCell ⟨g, 5, none⟩ (.int .i64 hi)).setCell ⟨g, 6, none⟩ (.func (.func tf) #[] #[])) := by
  refine ⟨?_, (((((((k.setCell (p := ⟨g, 0, none⟩) hB (.string nm)).setCell (p := ⟨g, 1, none⟩) hB (.bool fi)).setCell (p := ⟨g, 2, none⟩) hB (.bool da)).setCell (p := ⟨g, 3, none⟩) hB (.func (.func cf) #[] #[])).setCell (p := ⟨g, 4, none⟩) hB (.int .i64 lo)).setCell (p := ⟨g, 5, none⟩) hB (.int .i64 hi)).setCell (p := ⟨g, 6, none⟩) hB (.func (.func tf) #[] #[]))⟩
  have hz := (((((((h.set_ 0 (.string nm)).set_ 1 (.bool fi)).set_ 2 (.bool da)).set_ 3 (.func (.func cf) #[] #[])).set_ 4 (.int .i64 lo)).set_ 5 (.int .i64 hi)).set_ 6 (.func (.func tf) #[] #[]))
  exact hz

end Go.Proofs.YtgepbkldgnjpfaaGreatDoor
