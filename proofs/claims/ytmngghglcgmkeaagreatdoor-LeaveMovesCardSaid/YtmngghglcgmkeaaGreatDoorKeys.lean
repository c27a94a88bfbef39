/- Merged from: St13 St14 St15 St16 St17 St18 St19. -/
import Derived.Test.YtmngghglcgmkeaaGreatDoorThos
import Derived.Maps.Keyed
import Derived.DeepKeys4
import Derived.Test.YtmngghglcgmkeaaGreatDoorStP
import Derived.Deep.QuietTactic
import Derived.BigQuiet
import Derived.Shelf.SlSortCmp.QuietGrown
import Derived.Maps.OwnSet
import Derived.Maps.OwnOps
/- A known fact as a map's key. -/
namespace Go.Proofs.YtmngghglcgmkeaaGreatDoor
open Go.RowKit Go.Sort Go.Maps Go.WideMaps

theorem laidT : laidOutB Tryz.prog = true := by kernel_rfl
theorem rowKn : (67 : TypeId) < Tryz.prog.types.size := of_decide_eq_true (by kernel_rfl)
theorem wideKn : (match Tryz.prog.underlying 67 with | some (.array _ _) | some (.struct _) => true | _ => false) = true := by kernel_rfl
theorem keyTyKn : Tryz.prog.keyTypeAt 4 67 = true := by kernel_rfl
set_option maxRecDepth 100000 in
theorem lawKn : KeyLaw Tryz.prog 67 := deep_law_laid laidT (m := 4) (by omega) rowKn keyTyKn wideKn
theorem keyedKn : Keyed Tryz.prog 67 := Keyed.of_law lawKn
end Go.Proofs.YtmngghglcgmkeaaGreatDoor

/- A known fact's key. -/
namespace Go.Proofs.YtmngghglcgmkeaaGreatDoor
open Go.RowKit Go.Sort Go.Maps Go.WideMaps

def litsF (f : Fa) : List Lit := [.int .u32 f.id, .int .u32 f.pe, .int .i64 f.ki, .int .i64 f.fr, .int .i64 f.to, .string f.co.data.toList, .int .i64 f.nu, .string f.tx.data.toList]
theorem cellsFact : Tryz.prog.cellsOf 26 = 8 := by kernel_rfl
theorem cellsKn : Tryz.prog.cellsOf 67 = 9 := by kernel_rfl
theorem cellsU : Tryz.prog.cellsOf 23 = 1 := by kernel_rfl
theorem cellsI : Tryz.prog.cellsOf 3 = 1 := by kernel_rfl
theorem cellsD : Tryz.prog.cellsOf 24 = 1 := by kernel_rfl
theorem cellsS : Tryz.prog.cellsOf 9 = 1 := by kernel_rfl
theorem cellsL : Tryz.prog.cellsOf 2 = 1 := by kernel_rfl
theorem kuniqU (m : Nat) (n : Int) (h : 0 ≤ n ∧ n ≤ 4294967295) : Tryz.prog.keyLits (m + 1) 23 [.int .u32 n] = some [.int .u32 n] := by
  unfold Program.keyLits
  simp only [Tryz.underlying23]
  rw [if_pos ⟨trivial, by
    have e1 : IntKind.u32.min = 0 := rfl
    have e2 : IntKind.u32.max = 4294967295 := rfl
    simp [Lit.wf, e1, e2]; omega⟩]
theorem kuniqI (m : Nat) (n : Int) (h : -9223372036854775808 ≤ n ∧ n ≤ 9223372036854775807) : Tryz.prog.keyLits (m + 1) 3 [.int .i64 n] = some [.int .i64 n] := by
  unfold Program.keyLits
  simp only [Tryz.underlying3]
  rw [if_pos ⟨trivial, by
    have e1 : IntKind.i64.min = -9223372036854775808 := rfl
    have e2 : IntKind.i64.max = 9223372036854775807 := rfl
    simp [Lit.wf, e1, e2]; omega⟩]
theorem kuniqL (m : Nat) (n : Int) (h : -9223372036854775808 ≤ n ∧ n ≤ 9223372036854775807) : Tryz.prog.keyLits (m + 1) 2 [.int .i64 n] = some [.int .i64 n] := by
  unfold Program.keyLits
  simp only [Tryz.underlying2]
  rw [if_pos ⟨trivial, by
    have e1 : IntKind.i64.min = -9223372036854775808 := rfl
    have e2 : IntKind.i64.max = 9223372036854775807 := rfl
    simp [Lit.wf, e1, e2]; omega⟩]
theorem kuniqD (m : Nat) (n : Int) (h : -9223372036854775808 ≤ n ∧ n ≤ 9223372036854775807) : Tryz.prog.keyLits (m + 1) 24 [.int .i64 n] = some [.int .i64 n] := by
  unfold Program.keyLits
  simp only [Tryz.underlying24]
  rw [if_pos ⟨trivial, by
    have e1 : IntKind.i64.min = -9223372036854775808 := rfl
    have e2 : IntKind.i64.max = 9223372036854775807 := rfl
    simp [Lit.wf, e1, e2]; omega⟩]
theorem kuniqS (m : Nat) (s : ByteArray) (h : s.size ≤ 1000000) : Tryz.prog.keyLits (m + 1) 9 [.string s] = some [.string s.data.toList] := by
  unfold Program.keyLits
  simp only [Tryz.underlying9]
  rw [if_pos (by unfold maxLen; omega)]
theorem litF (f : Fa) (h : Fit f) (m : Nat) : Tryz.prog.keyLits (m + 2) 26 (encF f) = some (litsF f) := by
  unfold Program.keyLits
  simp only [Tryz.underlying26]
  rw [if_pos ⟨by rw [encF_len, cellsFact], by simp⟩]
  simp only [List.mapM_cons, List.mapM_nil, cellsU, cellsI, cellsD, cellsS, cellsL, encF, List.drop_zero, List.drop_succ_cons, List.take_succ_cons, List.take_zero]
  rw [kuniqU m f.id h.id, kuniqU m f.pe h.pe, kuniqI m f.ki h.ki, kuniqD m f.fr h.fr, kuniqD m f.to h.to, kuniqS m f.co h.co, kuniqL m f.nu h.nu, kuniqS m f.tx h.tx]
  rfl
theorem litK (x : Kn) (hn : -9223372036854775808 ≤ x.1 ∧ x.1 ≤ 9223372036854775807) (h : Fit x.2) (m : Nat) : Tryz.prog.keyLits (m + 3) 67 (encK x) = some (.int .i64 x.1 :: litsF x.2) := by
  have h8 : (encF x.2).take 8 = encF x.2 := List.take_of_length_le (by rw [encF_len]; omega)
  unfold Program.keyLits
  simp only [Tryz.underlying67]
  rw [if_pos ⟨by rw [encK_len, cellsKn], by simp⟩]
  simp only [List.mapM_cons, List.mapM_nil, cellsI, cellsFact, encK, List.drop_zero, List.drop_succ_cons, List.take_succ_cons, List.take_zero, h8]
  rw [kuniqI (m + 1) x.1 hn, litF x.2 h m]
  simp
def keyK (x : Kn) : Lit := .string (keyBytes (.int .i64 x.1 :: litsF x.2))
theorem keyTyKn2 : Tryz.prog.keyType 67 = true := by kernel_rfl
theorem sizeT : ∃ m, Tryz.prog.types.size + 1 = m + 3 := by
  have h : (3 : Nat) ≤ Tryz.prog.types.size := of_decide_eq_true (by kernel_rfl)
  exact ⟨Tryz.prog.types.size + 1 - 3, by omega⟩
theorem keyOfKn (x : Kn) (hn : -9223372036854775808 ≤ x.1 ∧ x.1 ≤ 9223372036854775807) (h : Fit x.2) : keyOf Tryz.prog 67 (.agg (encK x).toArray) = some (keyK x) := by
  obtain ⟨m, hm⟩ := sizeT
  unfold keyOf
  simp only [Tryz.underlying67]
  rw [if_pos (by simp [keyTyKn2, Value.formed, Tryz.underlying67, cellsKn, encK_len]), hm]
  show (Tryz.prog.keyLits (m + 3) 67 (encK x)).map _ = _
  rw [litK x hn h m]
  rfl
end Go.Proofs.YtmngghglcgmkeaaGreatDoor

/- Known facts have keys of their own. -/
namespace Go.Proofs.YtmngghglcgmkeaaGreatDoor
open Go.RowKit Go.Sort Go.Maps Go.WideMaps

structure FitK (x : Kn) : Prop where
  n : -9223372036854775808 ≤ x.1 ∧ x.1 ≤ 9223372036854775807
  f : Fit x.2
theorem encK_inj {x y : Kn} (h : encK x = encK y) : x = y := by
  obtain ⟨n, f⟩ := x
  obtain ⟨m, g⟩ := y
  obtain ⟨a1, a2, a3, a4, a5, a6, a7, a8⟩ := f
  obtain ⟨b1, b2, b3, b4, b5, b6, b7, b8⟩ := g
  simp only [encK, encF, List.cons.injEq, Value.int.injEq, Value.string.injEq, true_and, and_true] at h
  obtain ⟨rfl, rfl, rfl, rfl, rfl, rfl, rfl, rfl, rfl⟩ := h
  rfl
theorem keyK_inj {x y : Kn} (hx : FitK x) (hy : FitK y) (h : keyK x = keyK y) : x = y := by
  have h1 := keyOfKn x hx.n hx.f
  have h2 := keyOfKn y hy.n hy.f
  rw [← h] at h2
  have h3 := keyedKn.inj h1 h2
  refine encK_inj ?_
  have h4 : (encK x).toArray = (encK y).toArray := by injection h3
  simpa using h4
end Go.Proofs.YtmngghglcgmkeaaGreatDoor

/- Contracts of the comparing functions of the stable sort's call. (StC of Leave, turned to known facts.) -/
namespace Go.Proofs.YtmngghglcgmkeaaGreatDoor
open Go.RowKit Go.Sort

theorem ret_int {k : IntKind} {a b : Int} (h : a = b) : Ending.returned (.int k a) = .returned (.int k b) := by rw [h]
theorem ret_bool {a b : Bool} (h : a = b) : Ending.returned (.bool a) = .returned (.bool b) := by rw [h]
def cf (x y : Int) : Int := if x < y then -1 else if y < x then 1 else 0
theorem cf_lt (x y : Int) (h : x < y) : decide (cf x y < 0) = true := by unfold cf; rw [if_pos h]; rfl
theorem cf_ge (x y : Int) (h : ¬ x < y) : decide (cf x y < 0) = false := by unfold cf; rw [if_neg h]; split <;> rfl
theorem cf_neg (x y : Int) : (x < y → cf x y < 0) ∧ (¬ x < y → 0 ≤ cf x y) := ⟨fun h => by unfold cf; rw [if_pos h]; omega, fun h => by unfold cf; rw [if_neg h]; split <;> omega⟩
def lt (x y : Kn) : Bool := decide (x.1 < y.1)
theorem lt_swk : Swk lt := ⟨fun x y h => by simp [lt] at h ⊢; omega, fun x y z h k => by simp [lt] at h k ⊢; omega⟩

end Go.Proofs.YtmngghglcgmkeaaGreatDoor

/- The law's helper: are facts few, and short? -/
namespace Go.Proofs.YtmngghglcgmkeaaGreatDoor
open Go.RowKit Go.Sort

def shortF (f : Fa) : Bool := decide ((f.co.size : Int) ≤ 300 ∧ (f.tx.size : Int) ≤ 300)
/-- Are facts few, and short? -/
def shortB (L : List Fa) : Bool := L.all shortF && decide ((L.length : Int) ≤ 30)
end Go.Proofs.YtmngghglcgmkeaaGreatDoor

/- All facts of a store, numbered. -/
namespace Go.Proofs.YtmngghglcgmkeaaGreatDoor
open Go.RowKit Go.Sort

/-- The first k facts, numbered. -/
def allK (L : List Fa) (k : Nat) : List Kn := (List.range k).filterMap fun (i : Nat) => L[i]?.map fun f => (((i : Nat) : Int) + 1, f)
theorem allK_succ {L : List Fa} {k : Nat} {f : Fa} (h : L[k]? = some f) : allK L (k + 1) = allK L k ++ [((k : Int) + 1, f)] := by
  unfold allK
  rw [List.range_succ, List.filterMap_append]
  simp [h]
theorem allK_len (L : List Fa) (k : Nat) : (allK L k).length ≤ k := by
  unfold allK
  have := List.length_filterMap_le (fun (i : Nat) => L[i]?.map fun f => ((((i : Nat) : Int) + 1, f) : Kn)) (List.range k)
  rwa [List.length_range] at this
end Go.Proofs.YtmngghglcgmkeaaGreatDoor

/- What the map of known facts holds. -/
namespace Go.Proofs.YtmngghglcgmkeaaGreatDoor
open Go.RowKit Go.Sort Go.WideMaps Go.Maps Go.WideElems

def kbs (x : Kn) : List UInt8 := keyBytes (.int .i64 x.1 :: litsF x.2)
theorem keyK_eq (x : Kn) : keyK x = .string (kbs x) := rfl
/-- What the map holds behind some known facts. -/
structure Has (D : DataW Unit) (N : List Kn) : Prop where
  map : IsMap D
  at_ : ∀ a : Kn, Maps.has D (keyK a) = decide (kbs a ∈ N.map kbs)
theorem Has.start : Has (.map []) [] := ⟨isMap_empty, fun a => by simp; rfl⟩
theorem Has.more {D : DataW Unit} {N : List Kn} (h : Has D N) (x : Kn) : Has (D.put (keyK x) (.lit (.bool true))) (N ++ [x]) := by
  refine ⟨h.map.put _ _, fun b => ?_⟩
  by_cases hb : kbs b = kbs x
  · rw [keyK_eq b, hb, ← keyK_eq x, has_put_same h.map (by trivial)]
    simp
  · rw [has_put_other (by rw [keyK_eq, keyK_eq]; intro e; injection e with e; exact hb e), h.at_ b]
    simp [hb]
end Go.Proofs.YtmngghglcgmkeaaGreatDoor
