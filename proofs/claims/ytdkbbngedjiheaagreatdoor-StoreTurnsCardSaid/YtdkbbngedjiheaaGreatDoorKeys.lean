/- Merged from: St13 St14 St15 St16 St17 St18 St19. -/
import Derived.Test.YtdkbbngedjiheaaGreatDoorThos
import Derived.Maps.Keyed
import Derived.DeepKeys4
import Derived.Test.YtdkbbngedjiheaaGreatDoorStP
import Derived.Deep.QuietTactic
import Derived.BigQuiet
import Derived.Shelf.SlSortCmp.QuietGrown
import Derived.Maps.OwnSet
import Derived.Maps.OwnOps
/- A known fact as a map's key. -/
namespace Go.Proofs.YtdkbbngedjiheaaGreatDoor
open Go.RowKit Go.Sort Go.Maps Go.WideMaps

theorem laidT : laidOutB Tryz.prog = true := by kernel_rfl
theorem rowKn : (42 : TypeId) < Tryz.prog.types.size := of_decide_eq_true (by kernel_rfl)
theorem wideKn : (match Tryz.prog.underlying 42 with | some (.array _ _) | some (.struct _) => true | _ => false) = true := by kernel_rfl
theorem keyTyKn : Tryz.prog.keyTypeAt 4 42 = true := by kernel_rfl
set_option maxRecDepth 100000 in
theorem lawKn : KeyLaw Tryz.prog 42 := deep_law_laid laidT (m := 4) (by omega) rowKn keyTyKn wideKn
theorem keyedKn : Keyed Tryz.prog 42 := Keyed.of_law lawKn
end Go.Proofs.YtdkbbngedjiheaaGreatDoor

/- A known fact's key. -/
namespace Go.Proofs.YtdkbbngedjiheaaGreatDoor
open Go.RowKit Go.Sort Go.Maps Go.WideMaps

def litsF (f : Fa) : List Lit := [.int .u32 f.id, .int .u32 f.pe, .int .i64 f.ki, .int .i64 f.fr, .int .i64 f.to, .string f.co.data.toList, .int .i64 f.nu, .string f.tx.data.toList]
theorem cellsFact : Tryz.prog.cellsOf 26 = 8 := by kernel_rfl
theorem cellsKn : Tryz.prog.cellsOf 42 = 9 := by kernel_rfl
theorem cellsU : Tryz.prog.cellsOf 23 = 1 := by kernel_rfl
theorem cellsI : Tryz.prog.cellsOf 3 = 1 := by kernel_rfl
theorem cellsD : Tryz.prog.cellsOf 24 = 1 := by kernel_rfl
theorem cellsS : Tryz.prog.cellsOf 9 = 1 := by kernel_rfl
theorem cellsL : Tryz.prog.cellsOf 2 = 1 := by kernel_rfl
theorem kuniqU (m : Nat) (n : Int) (h : 0 ≤ n ∧ n ≤ 4294967295) : Tryz.prog.keyLits (m + 1) 23 [.int .u32 n] = some [.int .u32 n] := by
  unfold Program.keyLits
  simp only [Tryz.underlying23]
  rw [if_pos ⟨trivial, by
    have e1 : IntKind.u32.min = 0 := rfl
    have e2 : IntKind.u32.max = 4294967295 := rfl
    simp [Lit.wf, e1, e2]; omega⟩]
theorem kuniqI (m : Nat) (n : Int) (h : -9223372036854775808 ≤ n ∧ n ≤ 9223372036854775807) : Tryz.prog.keyLits (m + 1) 3 [.int .i64 n] = some [.int .i64 n] := by
  unfold Program.keyLits
  simp only [Tryz.underlying3]
  rw [if_pos ⟨trivial, by
    have e1 : IntKind.i64.min = -9223372036854775808 := rfl
    have e2 : IntKind.i64.max = 9223372036854775807 := rfl
    simp [Lit.wf, e1, e2]; omega⟩]
theorem kuniqL (m : Nat) (n : Int) (h : -9223372036854775808 ≤ n ∧ n ≤ 9223372036854775807) : Tryz.prog.keyLits (m + 1) 2 [.int .i64 n] = some [.int .i64 n] := by
  unfold Program.keyLits
  simp only [Tryz.underlying2]
  rw [if_pos ⟨trivial, by
    have e1 : IntKind.i64.min = -9223372036854775808 := rfl
    have e2 : IntKind.i64.max = 9223372036854775807 := rfl
    simp [Lit.wf, e1, e2]; omega⟩]
theorem kuniqD (m : Nat) (n : Int) (h : -9223372036854775808 ≤ n ∧ n ≤ 9223372036854775807) : Tryz.prog.keyLits (m + 1) 24 [.int .i64 n] = some [.int .i64 n] := by
  unfold Program.keyLits
  simp only [Tryz.underlying24]
  rw [if_pos ⟨trivial, by
    have e1 : IntKind.i64.min = -9223372036854775808 := rfl
    have e2 : IntKind.i64.max = 9223372036854775807 := rfl
    simp [Lit.wf, e1, e2]; omega⟩]
theorem kuniqS (m : Nat) (s : ByteArray) (h : s.size ≤ 1000000) : Tryz.prog.keyLits (m + 1) 9 [.string s] = some [.string s.data.toList] := by
  unfold Program.keyLits
  simp only [Tryz.underlying9]
  rw [if_pos (by unfold maxLen; omega)]
theorem litF (f : Fa) (h : Fit f) (m : Nat) : Tryz.prog.keyLits (m + 2) 26 (encF f) = some (litsF f) := by
  unfold Program.keyLits
  simp only [Tryz.underlying26]
  rw [if_pos ⟨by rw [encF_len, cellsFact], by simp⟩]
  simp only [List.mapM_cons, List.mapM_nil, cellsU, cellsI, cellsD, cellsS, cellsL, encF, List.drop_zero, List.drop_succ_cons, List.take_succ_cons, List.take_zero]
  rw [kuniqU m f.id h.id, kuniqU m f.pe h.pe, kuniqI m f.ki h.ki, kuniqD m f.fr h.fr, kuniqD m f.to h.to, kuniqS m f.co h.co, kuniqL m f.nu h.nu, kuniqS m f.tx h.tx]
  rfl
theorem litK (x : Kn) (hn : -9223372036854775808 ≤ x.1 ∧ x.1 ≤ 9223372036854775807) (h : Fit x.2) (m : Nat) : Tryz.prog.keyLits (m + 3) 42 (encK x) = some (.int .i64 x.1 :: litsF x.2) := by
  have h8 : (encF x.2).take 8 = encF x.2 := List.take_of_length_le (by rw [encF_len]; omega)
  unfold Program.keyLits
  simp only [Tryz.underlying42]
  rw [if_pos ⟨by rw [encK_len, cellsKn], by simp⟩]
  simp only [List.mapM_cons, List.mapM_nil, cellsI, cellsFact, encK, List.drop_zero, List.drop_succ_cons, List.take_succ_cons, List.take_zero, h8]
  rw [kuniqI (m + 1) x.1 hn, litF x.2 h m]
  simp
def keyK (x : Kn) : Lit := .string (keyBytes (.int .i64 x.1 :: litsF x.2))
theorem keyTyKn2 : Tryz.prog.keyType 42 = true := by kernel_rfl
theorem sizeT : ∃ m, Tryz.prog.types.size + 1 = m + 3 := by
  have h : (3 : Nat) ≤ Tryz.prog.types.size := of_decide_eq_true (by kernel_rfl)
  exact ⟨Tryz.prog.types.size + 1 - 3, by omega⟩
theorem keyOfKn (x : Kn) (hn : -9223372036854775808 ≤ x.1 ∧ x.1 ≤ 9223372036854775807) (h : Fit x.2) : keyOf Tryz.prog 42 (.agg (encK x).toArray) = some (keyK x) := by
  obtain ⟨m, hm⟩ := sizeT
  unfold keyOf
  simp only [Tryz.underlying42]
  rw [if_pos (by simp [keyTyKn2, Value.formed, Tryz.underlying42, cellsKn, encK_len]), hm]
  show (Tryz.prog.keyLits (m + 3) 42 (encK x)).map _ = _
  rw [litK x hn h m]
  rfl
end Go.Proofs.YtdkbbngedjiheaaGreatDoor

/- Known facts have keys of their own. -/
namespace Go.Proofs.YtdkbbngedjiheaaGreatDoor
open Go.RowKit Go.Sort Go.Maps Go.WideMaps

structure FitK (x : Kn) : Prop where
  n : -9223372036854775808 ≤ x.1 ∧ x.1 ≤ 9223372036854775807
  f : Fit x.2
theorem encK_inj {x y : Kn} (h : encK x = encK y) : x = y := by
  obtain ⟨n, f⟩ := x
  obtain ⟨m, g⟩ := y
  obtain ⟨a1, a2, a3, a4, a5, a6, a7, a8⟩ := f
  obtain ⟨b1, b2, b3, b4, b5, b6, b7, b8⟩ := g
  simp only [encK, encF, List.cons.injEq, Value.int.injEq, Value.string.injEq, true_and, and_true] at h
  obtain ⟨rfl, rfl, rfl, rfl, rfl, rfl, rfl, rfl, rfl⟩ := h
  rfl
theorem keyK_inj {x y : Kn} (hx : FitK x) (hy : FitK y) (h : keyK x = keyK y) : x = y := by
  have h1 := keyOfKn x hx.n hx.f
  have h2 := keyOfKn y hy.n hy.f
  rw [← h] at h2
  have h3 := keyedKn.inj h1 h2
  refine encK_inj ?_
  have h4 : (encK x).toArray = (encK y).toArray := by injection h3
  simpa using h4
end Go.Proofs.YtdkbbngedjiheaaGreatDoor

/- Contracts of the comparing functions of the stable sort's call. (StC of Leave, turned to known facts.) -/
namespace Go.Proofs.YtdkbbngedjiheaaGreatDoor
open Go.RowKit Go.Sort

theorem ret_int {k : IntKind} {a b : Int} (h : a = b) : Ending.returned (.int k a) = .returned (.int k b) := by rw [h]
theorem ret_bool {a b : Bool} (h : a = b) : Ending.returned (.bool a) = .returned (.bool b) := by rw [h]
def cf (x y : Int) : Int := if x < y then -1 else if y < x then 1 else 0
theorem cf_lt (x y : Int) (h : x < y) : decide (cf x y < 0) = true := by unfold cf; rw [if_pos h]; rfl
theorem cf_ge (x y : Int) (h : ¬ x < y) : decide (cf x y < 0) = false := by unfold cf; rw [if_neg h]; split <;> rfl
theorem cf_neg (x y : Int) : (x < y → cf x y < 0) ∧ (¬ x < y → 0 ≤ cf x y) := ⟨fun h => by unfold cf; rw [if_pos h]; omega, fun h => by unfold cf; rw [if_neg h]; split <;> omega⟩
def lt (x y : Kn) : Bool := decide (x.1 < y.1)
theorem lt_swk : Swk lt := ⟨fun x y h => by simp [lt] at h ⊢; omega, fun x y z h k => by simp [lt] at h k ⊢; omega⟩

theorem cmp_isNaN (x : Int) (w : World) : Calls Tryz.prog 93 #[.int .i64 x] w fun e w' => e = .returned (.bool false) ∧ w' = w := by
  go_enter Tryz.func93, Tryz.ntmps93
  go_wp2
  go_ret
  exact ⟨rfl, rfl⟩

theorem cmp_Compare (x y : Int) (w : World) : Calls Tryz.prog 58 #[.int .i64 x, .int .i64 y] w fun e w' => e = .returned (.int .i64 (cf x y)) ∧ w' = w := by
  go_enter Tryz.func58, Tryz.ntmps58
  go_wp2_with fail
  refine (cmp_isNaN x _).mono ?_
  rintro e w1 ⟨rfl, rfl⟩
  go_wp2_with fail
  refine (cmp_isNaN y _).mono ?_
  rintro e w1 ⟨rfl, rfl⟩
  by_cases h : x < y
  · go_wp2
    go_ret
    exact ⟨ret_int (by unfold cf; rw [if_pos (by omega)]), rfl⟩
  · by_cases h1 : y < x
    · go_wp2
      go_ret
      exact ⟨ret_int (by unfold cf; rw [if_neg (by omega), if_pos (by omega)]), rfl⟩
    · go_wp2
      go_ret
      exact ⟨ret_int (by unfold cf; rw [if_neg (by omega), if_neg (by omega)]), rfl⟩

theorem cmpK (x y : Kn) (w : World) : Calls Tryz.prog 57 #[.agg (encK x).toArray, .agg (encK y).toArray] w fun e w' => e = .returned (.int .i64 (cf x.1 y.1)) ∧ ∃ q os', w' = grow (w.drewN q) os' := by
  obtain ⟨n, f⟩ := x
  obtain ⟨m, g⟩ := y
  show Calls _ _ #[.agg #[.int .i64 n, .int .u32 f.id, .int .u32 f.pe, .int .i64 f.ki, .int .i64 f.fr, .int .i64 f.to, .string f.co, .int .i64 f.nu, .string f.tx], .agg #[.int .i64 m, .int .u32 g.id, .int .u32 g.pe, .int .i64 g.ki, .int .i64 g.fr, .int .i64 g.to, .string g.co, .int .i64 g.nu, .string g.tx]] w fun e w' => e = .returned (.int .i64 (cf n m)) ∧ ∃ q os', w' = grow (w.drewN q) os'
  go_enter Tryz.func57, Tryz.ntmps57
  go_wp2_with fail
  refine (cmp_Compare n m _).mono ?_
  rintro e w1 ⟨rfl, rfl⟩
  go_wp2
  go_ret
  refine ⟨rfl, 0, #[.cells (encK (n, f)).toArray 42, .cells (encK (m, g)).toArray 42], ?_⟩
  rw [alloc_eq_grow, alloc_eq_grow, grow_grow]
  rfl
end Go.Proofs.YtdkbbngedjiheaaGreatDoor

/- The law's helper: are facts few, and short? -/
namespace Go.Proofs.YtdkbbngedjiheaaGreatDoor
open Go.RowKit Go.Sort

def shortF (f : Fa) : Bool := decide ((f.co.size : Int) ≤ 300 ∧ (f.tx.size : Int) ≤ 300)
/-- Are facts few, and short? -/
def shortB (L : List Fa) : Bool := L.all shortF && decide ((L.length : Int) ≤ 30)
set_option maxHeartbeats 2000000 in
set_option maxRecDepth 10000 in
theorem la_short (L : List Fa) (A : Option Addr) (cap : Nat) (w : World) (hn : L.length ≤ 9223372036854775807) (hs : SlF w A L) :
    Calls Tryz.prog 15 #[.slice A L.length cap] w fun e w' => e = .returned (.bool (shortB L)) ∧ Below w.heap.size w w' := by
  have HS := Lib.hid hs
  clear hs
  go_enter Tryz.func15, Tryz.ntmps15
  go_wp2
  go_loopw [4, 7] (fun _ iv wr => ∃ k : Nat, k ≤ L.length ∧ iv = .int .i64 k ∧ Hid ((L.take k).all shortF = true) ∧ Hid (Below w.heap.size w wr)) (fun _ iv _ => L.length - (intOf iv).toNat)
  case atStart => exact ⟨0, Nat.zero_le _, rfl, Lib.hid rfl, Lib.hid (Below.refl _ _)⟩
  case round =>
    obtain ⟨k, hk, rfl, HP, HB⟩ := hrel
    by_cases hlt : k < L.length
    · obtain ⟨b, off, rfl, hbl, hat⟩ := SlF.open_ HS.out (by intro h; simp [h] at hlt)
      obtain ⟨f, hx⟩ : ∃ x, L[k]? = some x := ⟨_, List.getElem?_eq_getElem hlt⟩
      have hat1 := (hat k f hx).below HB.out
      have C0 := hat1.c0
      have C1 := hat1.c1
      have C2 := hat1.c2
      have C3 := hat1.c3
      have C4 := hat1.c4
      have C5 := hat1.c5
      have C6 := hat1.c6
      have C7 := hat1.c7
      have HX := Lib.hid hx
      have HBA : Hid (∀ o, Below w.heap.size w (wr.alloc o)) := Lib.hid (fun o => bTrans HB.out (bAlloc wr o))
      clear hat hat1 hx
      by_cases h1 : (300 : Int) < (f.co.size : Int)
      · have HF : Hid (shortB L = false) := Lib.hid (by unfold shortB; rw [all_bad HX.out (decide_eq_false (by omega)), Bool.false_and])
        have hd : decide ((300 : Int) < (f.co.size : Int)) = true := decide_eq_true h1
        go_wp2
        go_ret
        exact ⟨ret_b HF.out.symm, HBA.out _⟩
      · have hd : decide ((300 : Int) < (f.co.size : Int)) = false := decide_eq_false h1
        by_cases h2 : (300 : Int) < (f.tx.size : Int)
        · have HF : Hid (shortB L = false) := Lib.hid (by unfold shortB; rw [all_bad HX.out (decide_eq_false (by omega)), Bool.false_and])
          have hd2 : decide ((300 : Int) < (f.tx.size : Int)) = true := decide_eq_true h2
          go_wp2
          go_ret
          exact ⟨ret_b HF.out.symm, HBA.out _⟩
        · have hd2 : decide ((300 : Int) < (f.tx.size : Int)) = false := decide_eq_false h2
          have HN : Hid ((L.take (k + 1)).all shortF = true) := Lib.hid (all_more HP.out HX.out (decide_eq_true (by omega)))
          go_wp2
          exact ⟨⟨k + 1, by omega, by go_num, HN, Lib.hid (HBA.out _)⟩, by simp [intOf]; omega⟩
    · obtain rfl : k = L.length := by omega
      have HF : Hid (shortB L = decide ((L.length : Int) ≤ 30)) := Lib.hid (by unfold shortB; have := HP.out; rw [List.take_length] at this; rw [this, Bool.true_and])
      go_wp2
      go_ret
      exact ⟨ret_b HF.out.symm, HB.out⟩
end Go.Proofs.YtdkbbngedjiheaaGreatDoor

/- All facts of a store, numbered. -/
namespace Go.Proofs.YtdkbbngedjiheaaGreatDoor
open Go.RowKit Go.Sort

/-- The first k facts, numbered. -/
def allK (L : List Fa) (k : Nat) : List Kn := (List.range k).filterMap fun (i : Nat) => L[i]?.map fun f => (((i : Nat) : Int) + 1, f)
theorem allK_succ {L : List Fa} {k : Nat} {f : Fa} (h : L[k]? = some f) : allK L (k + 1) = allK L k ++ [((k : Int) + 1, f)] := by
  unfold allK
  rw [List.range_succ, List.filterMap_append]
  simp [h]
theorem allK_len (L : List Fa) (k : Nat) : (allK L k).length ≤ k := by
  unfold allK
  have := List.length_filterMap_le (fun (i : Nat) => L[i]?.map fun f => ((((i : Nat) : Int) + 1, f) : Kn)) (List.range k)
  rwa [List.length_range] at this
end Go.Proofs.YtdkbbngedjiheaaGreatDoor

/- What the map of known facts holds. -/
namespace Go.Proofs.YtdkbbngedjiheaaGreatDoor
open Go.RowKit Go.Sort Go.WideMaps Go.Maps Go.WideElems

def kbs (x : Kn) : List UInt8 := keyBytes (.int .i64 x.1 :: litsF x.2)
theorem keyK_eq (x : Kn) : keyK x = .string (kbs x) := rfl
/-- What the map holds behind some known facts. -/
structure Has (D : DataW Unit) (N : List Kn) : Prop where
  map : IsMap D
  at_ : ∀ a : Kn, Maps.has D (keyK a) = decide (kbs a ∈ N.map kbs)
theorem Has.start : Has (.map []) [] := ⟨isMap_empty, fun a => by simp; rfl⟩
theorem Has.more {D : DataW Unit} {N : List Kn} (h : Has D N) (x : Kn) : Has (D.put (keyK x) (.lit (.bool true))) (N ++ [x]) := by
  refine ⟨h.map.put _ _, fun b => ?_⟩
  by_cases hb : kbs b = kbs x
  · rw [keyK_eq b, hb, ← keyK_eq x, has_put_same h.map (by trivial)]
    simp
  · rw [has_put_other (by rw [keyK_eq, keyK_eq]; intro e; injection e with e; exact hb e), h.at_ b]
    simp [hb]
end Go.Proofs.YtdkbbngedjiheaaGreatDoor
