/- Merged from: Ln3 Ln4 Ln5 Rgi Ln6. -/
import Derived.Test.YtmngghglcgmkeaaGreatDoorLna
import Derived.Test.YtmngghglcgmkeaaGreatDoorDs1
import Derived.RangeFuncNested
import Derived.Scope
import Derived.RangeFuncBound
import Derived.RangeFuncCalls
import Derived.RangeFuncLeaves
import Derived.RangeFuncBox
import Derived.WalkKit
import Derived.OwnWalkIn
import Derived.TacticsInMore
import Derived.LoopNIn
import Derived.LoopIn
import Derived.Maps.AppendAt
import Derived.Test.YtmngghglcgmkeaaGreatDoorRegs
import Derived.OrdersIn
import Derived.TacticsIn
namespace Go.Proofs.YtmngghglcgmkeaaGreatDoor
open Go.RowKit Go.Sort

/-- Is a day within a span, behind its first one? -/
def selB (F T d : Int) : Bool := decide (F < d) && decide (d < T)
/-- The days within a span at which facts begin, or end. -/
def endsL (F T : Int) (X : List Kn) : List Int := X.flatMap fun x => [x.2.fr, x.2.to].filter (selB F T)
def cutsL (X : List Kn) (F T : Int) : List Int := (endsL F T X).foldl insU []
theorem ends_take {F T : Int} {X : List Kn} {k : Nat} {x : Kn} (h : X[k]? = some x) : endsL F T (X.take (k + 1)) = endsL F T (X.take k) ++ ([x.2.fr, x.2.to].filter (selB F T)) := by
  unfold endsL
  rw [List.take_add_one, h, List.flatMap_append]
  simp
theorem ends_len (F T : Int) : ∀ X : List Kn, (endsL F T X).length ≤ 2 * X.length
  | [] => Nat.le_refl _
  | x :: X => by
    have h1 := ends_len F T X
    have h2 : ([x.2.fr, x.2.to].filter (selB F T)).length ≤ 2 := List.length_filter_le _ _
    show ([x.2.fr, x.2.to].filter (selB F T) ++ endsL F T X).length ≤ _
    rw [List.length_append, List.length_cons]; omega
theorem filt_succ {p : Int → Bool} {E : List Int} {m : Nat} {d : Int} (h : E[m]? = some d) : (E.take (m + 1)).filter p = (E.take m).filter p ++ (if p d = true then [d] else []) := by
  rw [List.take_add_one, h, List.filter_append]
  congr 1
  show List.filter p [d] = _
  rw [List.filter_cons]
  rfl
set_option maxHeartbeats 8000000 in
set_option maxRecDepth 100000 in
theorem li_cuts (X : List Kn) (F T : Int) (A : Option Addr) (cap : Nat) (w : World) (hn : X.length ≤ 4096) (hs : SlK1 w A X) :
    Calls Tryz.prog 94 #[.agg #[.slice A X.length cap], .agg #[.int .i64 F, .int .i64 T]] w fun e w' => (∃ v, e = .returned v ∧ OwnDd w.heap.size v (cutsL X F T) w') ∧ Below w.heap.size w w' := by
  obtain ⟨lb, hlb⟩ : ∃ x, w.heap.size = x := ⟨_, rfl⟩
  obtain ⟨sb, hsb⟩ : ∃ x, lb + 1 = x := ⟨_, rfl⟩
  obtain ⟨w2, hw2⟩ : ∃ x, (w.alloc (.cells #[.slice A X.length cap] 84)).alloc (.cells #[.int .i64 F, .int .i64 T] 28) = x := ⟨_, rfl⟩
  obtain ⟨k1, k2, k3⟩ := bkk2 w _ _ _ _ hlb hsb hw2
  have HB2 := Lib.hid k3
  have HC : Hid (∀ W, Below w2.heap.size w2 W → W.cell? ⟨lb, 0, none⟩ = some (.slice A X.length cap) ∧ W.cell? ⟨sb, 0, none⟩ = some (.int .i64 F) ∧ W.cell? ⟨sb, 1, none⟩ = some (.int .i64 T) ∧ SlK1 W A X) := Lib.hid fun W hW => ⟨bCell hW (k1.cell 0), bCell hW (k2.cell 0), bCell hW (k2.cell 1), sl_bel hs (bTrans k3 hW)⟩
  have HE2 := Lib.hid (And.intro hlb (And.intro hsb hw2))
  clear hs hlb hsb hw2 k1 k2 k3
  go_enter Tryz.func94, Tryz.ntmps94
  go_upto_region 1 with fail
  rw [HE2.out.1, HE2.out.2.1, HE2.out.2.2]
  clear HE2
  obtain ⟨L0, S0, S1, _⟩ := HC.out w2 (Below.refl _ _)
  go_wp2
  go_loopw [5, 13] (fun ov iv wr => ∃ k : Nat, k ≤ X.length ∧ iv = .int .i64 k ∧ Hid (OwnDd w2.heap.size ov (endsL F T (X.take k)) wr) ∧ Hid (Below w2.heap.size w2 wr)) (fun _ iv _ => X.length - (intOf iv).toNat)
  case atStart => exact ⟨0, Nat.zero_le _, rfl, Lib.hid (Own.nil _), Lib.hid (Below.refl _ _)⟩
  case round =>
    clear L0 S0 S1
    obtain ⟨k, hk, rfl, HO, HB⟩ := hrel
    by_cases hlt : k < X.length
    · obtain ⟨x, hx⟩ : ∃ x, X[k]? = some x := ⟨_, List.getElem?_eq_getElem hlt⟩
      obtain ⟨_, _, _, hsl⟩ := HC.out wr HB.out
      obtain ⟨b, off, rfl, hbl, hat⟩ := hsl (by intro h; simp [h] at hlt)
      obtain ⟨G0, G1, G2, G3, G4, G5, G6, G7, G8⟩ := kcells (hat k x hx)
      have hlt2 : (k : Int) < (X.length : Int) := by omega
      have HTK := Lib.hid (ends_take (F := F) (T := T) hx)
      have HLE : Hid ((endsL F T (X.take k)).length ≤ 100000) := Lib.hid (by have := ends_len F T (X.take k); rw [List.length_take] at this; omega)
      obtain ⟨D, hD⟩ : ∃ D, endsL F T (X.take k) = D := ⟨_, rfl⟩
      rw [hD] at HO HTK HLE
      obtain ⟨kb, hkb⟩ : ∃ z, wr.heap.size = z := ⟨_, rfl⟩
      obtain ⟨w4, hw4⟩ : ∃ z, wr.alloc (.cells #[.int .i64 x.1, .int .u32 x.2.id, .int .u32 x.2.pe, .int .i64 x.2.ki, .int .i64 x.2.fr, .int .i64 x.2.to, .string x.2.co, .int .i64 x.2.nu, .string x.2.tx] 67) = z := ⟨_, rfl⟩
      have hk4 : Bk kb 67 #[.int .i64 x.1, .int .u32 x.2.id, .int .u32 x.2.pe, .int .i64 x.2.ki, .int .i64 x.2.fr, .int .i64 x.2.to, .string x.2.co, .int .i64 x.2.nu, .string x.2.tx] w4 := by rw [← hw4, ← hkb]; exact Bk.new _ _ _
      have hb4 : Below wr.heap.size wr w4 := by rw [← hw4]; exact bAlloc wr _
      have HB4 : Hid (Below w2.heap.size w2 w4) := Lib.hid (bTrans HB.out hb4)
      have HO4 := Lib.hid (own_bel HO.out hb4)
      have HE := Lib.hid (And.intro hkb hw4)
      have E4 : w4.cell? ⟨kb, 4, none⟩ = some (.int .i64 x.2.fr) := hk4.cell 4
      have E5 : w4.cell? ⟨kb, 5, none⟩ = some (.int .i64 x.2.to) := hk4.cell 5
      clear hat hsl hkb hw4 hx hk4 hb4
      go_upto_region 5 with fail
      rw [HE.out.1, HE.out.2]
      clear G0 G1 G2 G3 G4 G5 G6 G7 G8 HE
      obtain ⟨fr, hfr⟩ : ∃ z, x.2.fr = z := ⟨_, rfl⟩
      obtain ⟨t, hto⟩ : ∃ z, x.2.to = z := ⟨_, rfl⟩
      simp only [hfr, hto] at E4 E5 HTK ⊢
      clear hfr hto hD
      obtain ⟨mb, hmb⟩ : ∃ z, w4.heap.size = z := ⟨_, rfl⟩
      obtain ⟨w5, hw5⟩ : ∃ z, w4.alloc (.cells #[.int .i64 fr, .int .i64 t] 24) = z := ⟨_, rfl⟩
      have hk5 : Bk mb 24 #[.int .i64 fr, .int .i64 t] w5 := by rw [← hw5, ← hmb]; exact Bk.new _ _ _
      have hb5 : Below w4.heap.size w4 w5 := by rw [← hw5]; exact bAlloc w4 _
      have HB5 : Hid (Below w2.heap.size w2 w5) := Lib.hid (bTrans HB4.out hb5)
      have HO5 := Lib.hid (own_bel HO4.out hb5)
      have HMB : Hid (mb < w5.heap.size ∧ w2.heap.size ≤ mb) := Lib.hid ⟨hk5.lt, by rw [← hmb]; exact HB4.out.size⟩
      have HE5 := Lib.hid (And.intro hmb hw5)
      have HROW : Hid (∀ W, Below w5.heap.size w5 W → ∀ (j : Nat) y, [fr, t][j]? = some y → W.cell? ⟨mb, j, none⟩ = some (.int .i64 y)) := Lib.hid fun W hW j y hy => by
        refine bCell hW ?_
        rcases j with _ | _ | j
        · cases hy; exact hk5.cell 0
        · cases hy; exact hk5.cell 1
        · simp at hy
      have HNE : Hid (u5.ownBlock ≠ some mb) := Lib.hid (by
        intro h
        have h1 := (HO4.out.lt h).2
        rw [hmb] at h1
        exact Nat.lt_irrefl _ h1)
      clear hmb hw5 hk5 hb5
      go_upto_region 6 with fail
      rw [HE5.out.1, HE5.out.2]
      clear E4 E5 HE5
      go_loopw [5, 25] (fun ov iv wr2 => ∃ m : Nat, m ≤ 2 ∧ iv = .int .i64 m ∧ Hid (OwnDd w2.heap.size ov (D ++ ([fr, t].take m).filter (selB F T)) wr2) ∧ Hid (Below w2.heap.size w2 wr2) ∧ Hid ((∀ (j : Nat) y, m ≤ j → [fr, t][j]? = some y → wr2.cell? ⟨mb, j, none⟩ = some (.int .i64 y)) ∧ (m = 0 → ov.ownBlock ≠ some mb ∧ mb < wr2.heap.size))) (fun _ iv _ => 2 - (intOf iv).toNat)
      case atStart => exact ⟨0, Nat.zero_le _, rfl, Lib.hid (by simpa using HO5.out), HB5, Lib.hid ⟨fun j y _ hy => HROW.out _ (Below.refl _ _) j y hy, fun _ => ⟨HNE.out, HMB.out.1⟩⟩⟩
      case round =>
        obtain ⟨m, hm, rfl, HOi, HBi, HRi⟩ := hrel
        by_cases hlm : m < 2
        · obtain ⟨d, hd⟩ : ∃ d, [fr, t][m]? = some d := ⟨_, List.getElem?_eq_getElem hlm⟩
          have D0 := HRi.out.1 m d (Nat.le_refl _) hd
          have hlm2 : (m : Int) < 2 := by omega
          have HFS := Lib.hid (filt_succ (p := selB F T) hd)
          have HDL : Hid ((D ++ ([fr, t].take m).filter (selB F T)).length ≤ 200000) := Lib.hid (by
            have h1 : (([fr, t].take m).filter (selB F T)).length ≤ ([fr, t].take m).length := List.length_filter_le _ _
            rw [List.length_take] at h1
            have h2 := HLE.out
            rw [List.length_append]; omega)
          obtain ⟨_, S0, S1, _⟩ := HC.out wr HBi.out
          obtain ⟨x1, hx1⟩ : ∃ z, decide (F < d) = z := ⟨_, rfl⟩
          obtain ⟨x2, hx2⟩ : ∃ z, decide (d < T) = z := ⟨_, rfl⟩
          have HSEL : Hid (selB F T d = (x1 && x2)) := Lib.hid (by unfold selB; rw [hx1, hx2])
          rw [HSEL.out] at HFS
          go_upto_region 8 with fail
          cases x1 with
          | false =>
            have HC2 : Hid (([fr, t].take (m + 1)).filter (selB F T) = ([fr, t].take m).filter (selB F T)) := Lib.hid (by rw [HFS.out, if_neg (by simp), List.append_nil])
            go_wp2
            exact ⟨⟨m + 1, by omega, by go_num, Lib.hid (by rw [HC2.out]; exact HOi.out), HBi, Lib.hid ⟨fun j y hj hy => HRi.out.1 j y (by omega) hy, fun h => by omega⟩⟩, by simp [intOf]; omega⟩
          | true => 
            cases x2 with
            | false => 
              have HC2 : Hid (([fr, t].take (m + 1)).filter (selB F T) = ([fr, t].take m).filter (selB F T)) := Lib.hid (by rw [HFS.out, if_neg (by simp), List.append_nil])
              go_wp2
              exact ⟨⟨m + 1, by omega, by go_num, Lib.hid (by rw [HC2.out]; exact HOi.out), HBi, Lib.hid ⟨fun j y hj hy => HRi.out.1 j y (by omega) hy, fun h => by omega⟩⟩, by simp [intOf]; omega⟩
            | true =>
              have HC2 : Hid (([fr, t].take (m + 1)).filter (selB F T) = ([fr, t].take m).filter (selB F T) ++ [d]) := Lib.hid (by rw [HFS.out, if_pos (by simp)])
              have HSZ : Hid (w2.heap.size ≤ wr.heap.size) := Lib.hid HBi.out.size
              go_wp2_with ((at_builtin; refine wpList_append_row encDd_len encDd_one rfl _ _ 56 rfl w2.heap.size 24 _ 8 Tryz.underlying56 dayInfo rfl (by decide) _ (D ++ ([fr, t].take m).filter (selB F T)) d rfl (HOi.out.alloc _) wr.heap.size 1 rfl (newsDd d wr) (by have := HDL.out; omega) (by decide) (Nat.le_trans HSZ.out (Grows.of_alloc _ _).size) ?_))
              intro v6 w6 hown6 hgr6
              have HB6 : Hid (Below w2.heap.size w2 w6) := Lib.hid (belowDd (bTrans HBi.out (bAlloc wr _)) (Nat.le_trans HSZ.out (Grows.of_alloc _ _).size) (HOi.out.alloc _) hgr6)
              have HO6 : Hid (OwnDd w2.heap.size v6 (D ++ ([fr, t].take (m + 1)).filter (selB F T)) w6) := Lib.hid (by rw [HC2.out]; simpa only [List.append_assoc] using hown6)
              have HR6 : Hid ((∀ (j : Nat) y, m + 1 ≤ j → [fr, t][j]? = some y → w6.cell? ⟨mb, j, none⟩ = some (.int .i64 y)) ∧ (m + 1 = 0 → v6.ownBlock ≠ some mb ∧ mb < w6.heap.size)) := Lib.hid ⟨fun j y hj hy => by
                have hj2 : j < 2 := (List.getElem?_eq_some_iff.1 hy).1
                have hm0 : m = 0 := by omega
                have k1 := HRi.out.1 j y (by omega) hy
                obtain ⟨k2, k3⟩ := HRi.out.2 hm0
                have k4 : (wr.alloc (.cells #[.int .i64 d] 24)).cell? ⟨mb, j, none⟩ = some (.int .i64 y) := bCell (bAlloc wr _) k1
                rw [World.cell?_of_block (a := ⟨mb, j, none⟩) (hgr6.block mb (Nat.lt_of_lt_of_le k3 (Grows.of_alloc _ _).size) (fun h => k2 h.symm))]
                exact k4, fun h => by omega⟩
              clear hown6 hgr6
              go_wp2
              exact ⟨⟨m + 1, by omega, by go_num, HO6, HB6, HR6⟩, by simp [intOf]; omega⟩
        · obtain rfl : m = 2 := by omega
          have HO2 : Hid (OwnDd w2.heap.size u5 (endsL F T (X.take (k + 1))) wr) := Lib.hid (by rw [HTK.out]; exact HOi.out)
          go_wp2
          exact ⟨⟨k + 1, by omega, by go_num, HO2, HBi⟩, by simp [intOf]; omega⟩
    · obtain rfl : k = X.length := by omega
      rw [List.take_length] at HO
      have HLP : (endsL F T X).length ≤ 1000000 := by have := ends_len F T X; omega
      have HSO := Lib.hid (dd_SortO HO.out HLP)
      go_wp2_with fail
      refine HSO.out.mono ?_
      rintro e w4 ⟨rfl, ho4, hg4⟩
      have HB4 : Hid (Below w2.heap.size w2 w4) := Lib.hid (belowDd HB.out HB.out.size HO.out hg4)
      have HO4 := Lib.hid ho4
      have HCO := Lib.hid (dd_CompactO HO4.out (by rw [List.length_mergeSort]; exact HLP))
      clear ho4 hg4 HSO
      go_wp2_with fail
      refine HCO.out.mono ?_
      rintro e w5 ⟨⟨v5, rfl, ho5⟩, hg5⟩
      have HB5 : Hid (Below w2.heap.size w2 w5) := Lib.hid (belowDd HB4.out HB4.out.size HO4.out hg5)
      have HO5 := Lib.hid ho5
      clear ho5 hg5 HCO
      go_wp2
      go_ret
      exact ⟨⟨v5, rfl, by unfold cutsL; rw [← cmpct_sort]; exact ownDd_base HO5.out HB2.out.size⟩, bTrans HB2.out HB5.out⟩
end Go.Proofs.YtmngghglcgmkeaaGreatDoor

namespace Go.Proofs.YtmngghglcgmkeaaGreatDoor
open Go.RowKit Go.Sort

attribute [local go_sem] Oper.semAt_some

/-- The block of the row that cell ob holds. -/
def rowAt (ob : Nat) (W : World) : Option Nat := (W.cell? ⟨ob, 0, none⟩).bind Value.ownBlock
/-- All cells stay, but for cell ob and the row that it holds; its row is the old one, or a new one. -/
structure KX (ob : Nat) (W W' : World) : Prop where
  size : W.heap.size ≤ W'.heap.size
  same : ∀ (k : Nat) (o : Obj), W.heap[k]? = some o → o.isCells = true → k ≠ ob → rowAt ob W ≠ some k → W'.heap[k]? = some o
  own : rowAt ob W' = rowAt ob W ∨ ∃ k, rowAt ob W' = some k ∧ W.heap.size ≤ k
theorem KX.refl (ob : Nat) (W : World) : KX ob W W := ⟨Nat.le_refl _, fun _ _ h _ _ _ => h, .inl rfl⟩
theorem KX.trans {ob : Nat} {A B C : World} (h : KX ob A B) (k : KX ob B C) : KX ob A C := by
  refine ⟨Nat.le_trans h.size k.size, fun i o hi ho hn hr => ?_, ?_⟩
  · refine k.same i o (h.same i o hi ho hn hr) ho hn fun he => ?_
    rcases h.own with h1 | ⟨j, h1, h2⟩
    · exact hr (h1 ▸ he)
    · rw [h1] at he
      injection he with he
      have := (Array.getElem?_eq_some_iff.1 hi).1
      omega
  · rcases k.own with h1 | ⟨j, h1, h2⟩
    · rw [h1]; exact h.own
    · exact .inr ⟨j, h1, Nat.le_trans h.size h2⟩
theorem rowAt_block {ob : Nat} {W W' : World} (h : W'.heap[ob]? = W.heap[ob]?) : rowAt ob W' = rowAt ob W := by
  unfold rowAt
  rw [World.cell?_of_block (a := ⟨ob, 0, none⟩) h]
theorem KX.below {ob B : Nat} {W W' : World} (h : Below B W W') (hB : W.heap.size ≤ B) (ho : ob < W.heap.size) : KX ob W W' :=
  ⟨h.size, fun k o hk _ _ _ => (h.block k (by have := (Array.getElem?_eq_some_iff.1 hk).1; omega)).trans hk, .inl (rowAt_block (h.block ob (by omega)))⟩
theorem KX.put {ob l : Nat} {W : World} {o o' : Obj} (hl : W.heap[l]? = some o) (hc : o.isCells = false) (hne : l ≠ ob) : KX ob W (W.putObj l o') := by
  have g := grownBy_putObj' W l o'
  refine ⟨g.size, fun k x hk hx _ _ => ?_, ?_⟩
  · refine (g.block k (Array.getElem?_eq_some_iff.1 hk).1 fun he => ?_).trans hk
    injection he with he
    subst he
    rw [hl] at hk
    injection hk with hk
    subst hk
    rw [hc] at hx
    cases hx
  · by_cases h : ob < W.heap.size
    · exact .inl (rowAt_block (g.block ob h fun he => hne (by injection he with he; exact he.symm)))
    · have h2 : W.heap[ob]? = none := Array.getElem?_eq_none (by omega)
      have h3 : (W.putObj l o').heap[ob]? = none := by
        have : (W.putObj l o').heap[ob]? = W.heap[ob]? := World.putObj_heap_other (fun e => hne e.symm)
        rw [this, h2]
      exact .inl (rowAt_block (h3.trans h2.symm))
theorem cell_cells {W : World} {p : Addr} {u : Value} (h : W.cell? p = some u) : ∃ o, W.heap[p.block]? = some o ∧ o.isCells = true := by
  unfold World.cell? at h
  split at h
  · rename_i c t s hc; exact ⟨_, hc, rfl⟩
  · cases h
theorem KX.cell {ob : Nat} {W W' : World} (h : KX ob W W') {p : Addr} {u : Value} (hc : W.cell? p = some u) (hn : p.block ≠ ob) (hr : rowAt ob W ≠ some p.block) : W'.cell? p = some u := by
  obtain ⟨o, h1, h2⟩ := cell_cells hc
  have := h.same p.block o h1 h2 hn hr
  rw [World.cell?_of_block (a := p) (this.trans h1.symm)]
  exact hc

/-- Where the stretches stand: the first day of the one that lasts, its place, and what came. -/
abbrev SS := Int × Int × List (Int × Int × Int)
def strS (X : List Kn) (s : SS) (d : Int) : SS := if plc X d X.length = s.2.1 then s else (d, plc X d X.length, s.2.2 ++ [(s.1, d, s.2.1)])
def strK (X : List Kn) (F : Int) (C : List Int) : SS := C.foldl (strS X) (F, plc X F X.length, [])
def strL (X : List Kn) (F T : Int) : List (Int × Int × Int) := if T ≤ F then [] else (strK X F (cutsL X F T)).2.2 ++ [((strK X F (cutsL X F T)).1, T, (strK X F (cutsL X F T)).2.1)]
theorem strK_take {X : List Kn} {F : Int} {C : List Int} {k : Nat} {d : Int} (h : C[k]? = some d) : strK X F (C.take (k + 1)) = strS X (strK X F (C.take k)) d := by
  unfold strK
  rw [List.take_add_one, h, List.foldl_append]
  rfl
theorem strK_at (X : List Kn) (F : Int) : ∀ (C : List Int) (s : SS), (s.2.1 = -1 ∨ ∃ j : Nat, s.2.1 = j ∧ j < X.length) → ((C.foldl (strS X) s).2.1 = -1 ∨ ∃ j : Nat, (C.foldl (strS X) s).2.1 = j ∧ j < X.length)
  | [], _, h => h
  | d :: C, s, h => by
    rw [List.foldl_cons]
    refine strK_at X F C _ ?_
    unfold strS
    split
    · exact h
    · rcases plc_bd X d X.length with h | ⟨j, h1, _, h3⟩
      · exact .inl h
      · exact .inr ⟨j, h1, h3⟩
theorem strK_len (X : List Kn) (F : Int) : ∀ (C : List Int) (s : SS), (C.foldl (strS X) s).2.2.length ≤ s.2.2.length + C.length
  | [], _ => by simp
  | d :: C, s => by
    rw [List.foldl_cons]
    have h1 := strK_len X F C (strS X s d)
    have h2 : (strS X s d).2.2.length ≤ s.2.2.length + 1 := by
      unfold strS
      split
      · omega
      · simp
    rw [List.length_cons]
    omega
/-- A stretch that may come. -/
abbrev Str (n : Nat) := { p : Int × Int × Int // p.2.2 = -1 ∨ ∃ j : Nat, p.2.2 = j ∧ j < n }
theorem sl_kx {ob n₀ : Nat} {W W' : World} {A : Option Addr} {X : List Kn} (h : Sl encK 9 W n₀ A X) (hk : KX ob W W') (hn : n₀ ≤ ob) (hr : ∀ k, rowAt ob W = some k → n₀ ≤ k) : Sl encK 9 W' n₀ A X := fun hne => by
  obtain ⟨b, off, e, hb, hc⟩ := h hne
  exact ⟨b, off, e, hb, fun i x hx j u hu => hk.cell (p := ⟨b, _, none⟩) (hc i x hx j u hu) (by dsimp; omega) (fun he => by have := hr _ he; dsimp at this; omega)⟩
theorem sl_more {n₀ n₁ : Nat} {W : World} {A : Option Addr} {X : List Kn} (h : Sl encK 9 W n₀ A X) (hn : n₀ ≤ n₁) : Sl encK 9 W n₁ A X := fun hne => by
  obtain ⟨b, off, e, hb, hc⟩ := h hne
  exact ⟨b, off, e, by omega, hc⟩
theorem OwnDd.sl_ {B : Nat} {l : List Int} {v : Value} {w : World} (h : OwnDd B v l w) : ∃ A c, v = .slice A l.length c ∧ (l ≠ [] → ∃ b, A = some ⟨b, 0, none⟩ ∧ B ≤ b ∧ ∀ (i : Nat) (x : Int), l[i]? = some x → w.cell? ⟨b, 0 + i, none⟩ = some (.int .i64 x)) := by
  rcases h.shape with ⟨rfl, rfl⟩ | ⟨g, cap, rfl, h1, _, _, h2⟩
  · exact ⟨none, 0, rfl, fun h => absurd rfl h⟩
  · exact ⟨some ⟨g, 0, none⟩, cap, rfl, fun _ => ⟨g, rfl, h1, fun i x hx => by rw [Nat.zero_add]; exact h2 i x hx⟩⟩
set_option maxHeartbeats 8000000 in
set_option maxRecDepth 100000 in
theorem str1_in (n : Nat) (hn : 1 ≤ n) (l sb lb ob n₀ cap : Nat) (A : Option Addr) (X : List Kn) (F T : Int) (hX : X.length ≤ 4096)
    (J Jx : List (Str X.length) → World → Prop) (hJ : ∀ s A B, J s A → World.grownBy A B none → J s B)
    (hY : ∀ pre p W, J pre W → pre.length < (cutsL X F T).length + 1 → YieldAt Fence.wide (n - 1) Tryz.prog l #[.agg #[.int .i64 p.1.1, .int .i64 p.1.2.1], .int .i64 p.1.2.2] W fun e W' =>
      (e = .returned (.bool true) ∧ J (pre ++ [p]) W' ∧ KX ob W W') ∨ (e = .returned (.bool false) ∧ Jx (pre ++ [p]) W'))
    (W : World) (hob : ob < W.heap.size) (hlb : lb < W.heap.size ∧ lb ≠ ob) (hsb : sb < W.heap.size ∧ sb ≠ ob) (hn₀ : n₀ ≤ ob)
    (cl : W.cell? ⟨lb, 0, none⟩ = some (.slice A X.length cap)) (cs0 : W.cell? ⟨sb, 0, none⟩ = some (.int .i64 F)) (cs1 : W.cell? ⟨sb, 1, none⟩ = some (.int .i64 T))
    (hs : Sl encK 9 W n₀ A X) (hrow : rowAt ob W = none) (h0 : J [] W) :
    CallsIn Fence.wide n Tryz.prog 92 #[.func (.yield l) #[] #[], .pointer (some ⟨sb, 0, none⟩), .pointer (some ⟨lb, 0, none⟩)] W fun e W' => (∃ v, e = .returned v) ∧
      ((∃ ys, (ys.map (·.1) = strL X F T) ∧ J ys W') ∨ (∃ pre : List (Str X.length), True ∧ Jx pre W')) := by
  have HC : Hid (∀ W', KX ob W W' → W'.cell? ⟨lb, 0, none⟩ = some (.slice A X.length cap) ∧ W'.cell? ⟨sb, 0, none⟩ = some (.int .i64 F) ∧ W'.cell? ⟨sb, 1, none⟩ = some (.int .i64 T) ∧ SlK1 W' A X ∧ ob < W'.heap.size) := Lib.hid fun W' hk => by
    have hr : ∀ k, rowAt ob W ≠ some k := fun k h => by rw [hrow] at h; cases h
    have hz := hk.size
    exact ⟨hk.cell cl hlb.2 (hr _), hk.cell cs0 hsb.2 (hr _), hk.cell cs1 hsb.2 (hr _), sl_more (sl_kx hs hk hn₀ (fun k h => absurd h (hr k))) (by omega), by omega⟩
  have HR := Lib.hid hrow
  have HJ := Lib.hid hJ
  have HJ0 := Lib.hid h0
  have HOB := Lib.hid hob
  clear hs hrow hJ h0 hlb hsb hob hn₀
  refine callsIn_of_wp Tryz.func92 rfl trivial ?_ rfl
  simp only [Tryz.ntmps92, List.size_toArray, List.length_cons, List.length_nil, Nat.reduceAdd, Nat.reduceSub, Array.replicate_succ, Array.replicate_zero, List.push_toArray, List.append_toArray, List.nil_append, List.cons_append]
  refine wpIn_wide.2 (wp_scope_straight (wpIn_wide (n := n).1 ?_))
  by_cases hTF : T ≤ F
  · have b0 : decide (T ≤ F) = true := decide_eq_true hTF
    have HV : Hid (strL X F T = []) := Lib.hid (if_pos hTF)
    clear hTF
    gi_wp2
    simp only [Exit.noGoto]
    refine bodyPost_ret (results_none rfl _ _ _) rfl ?_
    exact ⟨⟨_, rfl⟩, .inl ⟨[], by rw [HV.out]; rfl, HJ0.out⟩⟩
  · have b0 : decide (T ≤ F) = false := decide_eq_false hTF
    have HV : Hid (strL X F T = (strK X F (cutsL X F T)).2.2 ++ [((strK X F (cutsL X F T)).1, T, (strK X F (cutsL X F T)).2.1)]) := Lib.hid (if_neg hTF)
    have HPL : Hid (∀ W', KX ob W W' → ∀ d, Calls Tryz.prog 93 #[.agg #[.slice A X.length cap], .int .i64 d] W' fun e w' => e = .returned (.int .i64 (plc X d X.length)) ∧ Below W'.heap.size W' w') := Lib.hid fun W' hk d => li_place X d A cap W' (by omega) (HC.out W' hk).2.2.2.1
    clear hTF
    gi_wp2
    refine wpIn_wide.2 ?_
    refine wp_region_mk (SPS [(1, Sp.val (.pointer (some ⟨sb, 0, none⟩))), (2, Sp.val (.pointer (some ⟨lb, 0, none⟩))), (14, Sp.val (.pointer (some ⟨sb, 0, none⟩))), (15, Sp.val (.int .i64 F)), (16, Sp.val (.agg #[.slice A X.length cap])), (17, Sp.val (.pointer (some ⟨sb, 0, none⟩))), (18, Sp.val (.int .i64 F)), (19, Sp.val (.int .i64 (plc X F X.length))), (4, Sp.val (.int .i64 F)), (5, Sp.val (.int .i64 (plc X F X.length)))]) [] [14, 15, 16, 17, 18, 19, 4, 5] rfl (by rfl) (by kernel_rfl) (SPS.st _) ?_ ?_ ?_ (by decide) (by rfl) ?_ (opsK_all ?_) ?_
    · exact nil_all
    · exact nil_all
    · exact nil_all
    · exact sps_start (cons_all rfl (cons_all rfl (nil_all)))
    · refine opsK_cons (by
       exact kind_n (opOk_run rfl (.inl rfl) (fun a W hW hsp => by
          have e1 : a.eval (.tmp 1) = .pointer (some ⟨sb, 0, none⟩) := (hsp 1 (by kernel_rfl)).get rfl
          refine ⟨.pointer (some ⟨sb, 0, none⟩), ?_, sps rfl rfl⟩
          unfold execOp
          simp only [e1]
          go_simp)) (by decide)) ?_
      refine opsK_cons (by
       exact kind_n (opOk_load (p := ⟨sb, 0, none⟩) rfl rfl (.inl rfl) (by kernel_rfl) (fun _ _ h => h.get rfl) (fun W hW => by
          obtain ⟨cc0, cc1, cc2, _⟩ := HC.out W (KX.below hW (Nat.le_refl _) HOB.out)
          exact ⟨.int .i64 F, by go_simp, sps rfl rfl⟩)) (by decide)) ?_
      refine opsK_cons (by
       exact kind_n (opOk_load (p := ⟨lb, 0, none⟩) rfl rfl (.inl rfl) (by kernel_rfl) (fun _ _ h => h.get rfl) (fun W hW => by
          obtain ⟨cc0, cc1, cc2, _⟩ := HC.out W (KX.below hW (Nat.le_refl _) HOB.out)
          exact ⟨.agg #[.slice A X.length cap], by go_simp, sps rfl rfl⟩)) (by decide)) ?_
      refine opsK_cons (by
       exact kind_n (opOk_run rfl (.inl rfl) (fun a W hW hsp => by
          have e1 : a.eval (.tmp 1) = .pointer (some ⟨sb, 0, none⟩) := (hsp 1 (by kernel_rfl)).get rfl
          refine ⟨.pointer (some ⟨sb, 0, none⟩), ?_, sps rfl rfl⟩
          unfold execOp
          simp only [e1]
          go_simp)) (by decide)) ?_
      refine opsK_cons (by
       exact kind_n (opOk_load (p := ⟨sb, 0, none⟩) rfl rfl (.inl rfl) (by kernel_rfl) (fun _ _ h => h.get rfl) (fun W hW => by
          obtain ⟨cc0, cc1, cc2, _⟩ := HC.out W (KX.below hW (Nat.le_refl _) HOB.out)
          exact ⟨.int .i64 F, by go_simp, sps rfl rfl⟩)) (by decide)) ?_
      refine opsK_cons (by
       exact kind_n (opOk_callg (fun a => #[a.eval (.tmp 16), a.eval (.tmp 18)]) rfl rfl (.inl rfl) (fun a => by simp only [List.map_toArray, List.map_cons, List.map_nil] <;> rfl) (fun args W => by go_simp) (fun a W hW hsp => by
          have e16 : a.eval (.tmp 16) = .agg #[.slice A X.length cap] := (hsp 16 (by kernel_rfl)).get rfl
          have e18 : a.eval (.tmp 18) = .int .i64 F := (hsp 18 (by kernel_rfl)).get rfl
          simp only [e16, e18]
          exact (HPL.out W (KX.below hW (Nat.le_refl _) HOB.out) F).mono fun e w' ⟨he, hb⟩ => ⟨_, he, hb, sps rfl rfl⟩)) (by decide)) ?_
      refine opsK_cons (by
       exact kind_n (opOk_assign rfl rfl (.inl rfl) (by kernel_rfl) (fun _ _ h => sps rfl (h.get rfl))) (by decide)) ?_
      refine opsK_cons (by
       exact kind_n (opOk_assign rfl rfl (.inl rfl) (by kernel_rfl) (fun _ _ h => sps rfl (h.get rfl))) (by decide)) ?_
      exact opsK_nil
    intro vs W1 hb hsp _
    have z4 := (hsp 4).get rfl
    have z5 := (hsp 5).get rfl
    simp only [putAll]
    go_simp
    have HK1 : Hid (KX ob W W1) := Lib.hid (KX.below hb (Nat.le_refl _) HOB.out)
    have HJ1 : Hid (J [] W1) := Lib.hid (HJ.out _ _ _ HJ0.out ⟨hb.os, hb.tape, hb.output, hb.size, fun i hi _ => hb.block i hi⟩)
    have HR1 : Hid (rowAt ob W1 = none) := Lib.hid (by rw [← HR.out]; exact rowAt_block (hb.block ob HOB.out))
    clear hb hsp cl cs0 cs1
    obtain ⟨cl, cs0, cs1, hs1, ho1⟩ := HC.out W1 HK1.out
    have HCU := Lib.hid (li_cuts X F T A cap W1 hX hs1)
    have HO1 := Lib.hid ho1
    clear hs1 ho1
    gi_wp2
    refine wpIn_label ?_
    gi_wp2
    refine ⟨trivial, (callsIn_wide.2 HCU.out).mono ?_⟩
    rintro e W2 ⟨⟨v2, rfl, ho2⟩, hb2⟩
    obtain ⟨A2, c2, rfl, hs2⟩ := OwnDd.sl_ ho2
    have hCL : (cutsL X F T).length ≤ 10000 := by
      have h1 := foldU_len (endsL F T X) []
      have h2 := ends_len F T X
      unfold cutsL
      simp only [List.length_nil] at h1
      omega
    obtain ⟨C, hC⟩ : ∃ C, cutsL X F T = C := ⟨_, rfl⟩
    rw [hC] at hs2 HV hY hCL ⊢
    have HK2 : Hid (KX ob W1 W2) := Lib.hid (KX.below hb2 (Nat.le_refl _) HO1.out)
    have HJ2 : Hid (J [] W2) := Lib.hid (HJ.out _ _ _ HJ1.out ⟨hb2.os, hb2.tape, hb2.output, hb2.size, fun i hi _ => hb2.block i hi⟩)
    have HR2 : Hid (rowAt ob W2 = none) := Lib.hid (by rw [← HR1.out]; exact rowAt_block (hb2.block ob HO1.out))
    have HKW : Hid (KX ob W W2) := Lib.hid (HK1.out.trans HK2.out)
    have HCT : Hid (C ≠ [] → ∃ b off, A2 = some ⟨b, off, none⟩ ∧ ∀ W', KX ob W2 W' → ∀ (i : Nat) (d : Int), C[i]? = some d → W'.cell? ⟨b, off + i, none⟩ = some (.int .i64 d)) := Lib.hid fun hne => by
      obtain ⟨b, he, hb1, hat⟩ := hs2 hne
      have ho := HO1.out
      refine ⟨b, 0, he, fun W' hk i d hd => hk.cell (p := ⟨b, 0 + i, none⟩) (hat i d hd) (by dsimp; omega) (by rw [HR2.out]; simp)⟩
    clear hC ho2 hb2 hs2 cl cs0 cs1 HCU
    gi_wp2
    gi_loopw [4, 5, 24] (fun fv av iv wr => ∃ (k : Nat) (f a : Int) (ys : List (Str X.length)), k ≤ C.length ∧ iv = .int .i64 k ∧ fv = .int .i64 f ∧ av = .int .i64 a ∧ Hid (strK X F (C.take k) = (f, a, ys.map (·.1))) ∧ Hid (J ys wr) ∧ Hid (KX ob W2 wr))
      (fun _ _ iv _ => C.length - (intOf iv).toNat)
    case atStart => exact ⟨0, F, plc X F X.length, [], Nat.zero_le _, rfl, z4, z5, Lib.hid rfl, HJ2, Lib.hid (KX.refl _ _)⟩
    case round =>
      obtain ⟨k, f, a, ys, hk, rfl, rfl, rfl, HS, HJr, HKr⟩ := hrel
      have hab : a = -1 ∨ ∃ j : Nat, a = j ∧ j < X.length := by
        have := strK_at X F (C.take k) (F, plc X F X.length, []) (by
          rcases plc_bd X F X.length with h | ⟨j, h1, _, h3⟩
          · exact .inl h
          · exact .inr ⟨j, h1, h3⟩)
        have h2 := HS.out
        unfold strK at h2
        rw [h2] at this
        exact this
      have hyl : ys.length ≤ k := by
        have := strK_len X F (C.take k) (F, plc X F X.length, [])
        have h2 := HS.out
        unfold strK at h2
        rw [h2, List.length_take] at this
        simp only [List.length_map, List.length_nil] at this
        omega
      have HAB := Lib.hid hab
      obtain ⟨cl, cs0, cs1, _, hob⟩ := HC.out wr (HKW.out.trans HKr.out)
      by_cases hlt : k < C.length
      · obtain ⟨d, hd⟩ : ∃ d, C[k]? = some d := ⟨_, List.getElem?_eq_getElem hlt⟩
        obtain ⟨b, off, rfl, hat⟩ := HCT.out (by intro h; simp [h] at hlt)
        have D0 := hat wr HKr.out k d hd
        have hlt2 : (k : Int) < (C.length : Int) := by omega
        have HST := Lib.hid (strK_take (X := X) (F := F) hd)
        rw [HS.out] at HST
        have HPW := Lib.hid (HPL.out wr (HKW.out.trans HKr.out) d)
        have HOr := Lib.hid hob
        have hyl2 : ys.length < C.length + 1 := by omega
        obtain ⟨q, hq⟩ : ∃ q, plc X d X.length = q := ⟨_, rfl⟩
        unfold strS at HST
        rw [hq] at HST HPW
        clear hat hd hq hab hob hyl
        gi_wp2
        refine ⟨trivial, (callsIn_wide.2 HPW.out).mono ?_⟩
        rintro e W3 ⟨rfl, hb3⟩
        have HK3 : Hid (KX ob W2 W3) := Lib.hid (HKr.out.trans (KX.below hb3 (Nat.le_refl _) HOr.out))
        have hJ3 : J ys W3 := HJ.out _ _ _ HJr.out ⟨hb3.os, hb3.tape, hb3.output, hb3.size, fun i hi _ => hb3.block i hi⟩
        clear hb3 cl cs0 cs1 D0 HPW
        by_cases hqa : q = a
        · have b1 : (q == a) = true := beq_iff_eq.2 hqa
          have HS2 : Hid (strK X F (C.take (k + 1)) = (f, a, ys.map (·.1))) := Lib.hid (by rw [HST.out, if_pos hqa])
          have HJ3 := Lib.hid hJ3
          clear hqa hJ3
          gi_wp2
          go_roundw
          case rel => exact ⟨k + 1, f, a, ys, by omega, by go_num, rfl, rfl, HS2, HJ3, HK3⟩
          case measure => simp [intOf]; omega
        · have b1 : (q == a) = false := beq_eq_false_iff_ne.2 hqa
          obtain ⟨p, hp⟩ : ∃ p : Str X.length, p.1 = (f, d, a) := ⟨⟨(f, d, a), HAB.out⟩, rfl⟩
          have HS2 : Hid (strK X F (C.take (k + 1)) = (d, q, (ys ++ [p]).map (·.1))) := Lib.hid (by rw [HST.out, if_neg hqa, List.map_append, List.map_cons, hp]; rfl)
          obtain ⟨fn, tmps, assign, body, hy, hR⟩ := hY ys p W3 hJ3 hyl2
          rw [hp] at hy
          clear hqa hJ3 hp
          gi_wp2
          refine hR.mono ?_
          rintro e W4 (⟨rfl, hJ4, hk4⟩ | ⟨rfl, hJx4⟩)
          · have HJ4 := Lib.hid hJ4
            have HK4 := Lib.hid (HK3.out.trans hk4)
            clear hJ4 hk4 hy hR
            gi_wp2
            go_roundw
            case rel => exact ⟨k + 1, d, q, ys ++ [p], by omega, by go_num, rfl, rfl, HS2, HJ4, HK4⟩
            case measure => simp [intOf]; omega
          · gi_wp2
            simp only [Exit.noGoto]
            refine bodyPost_ret (results_none rfl _ _ _) rfl ?_
            exact ⟨⟨_, rfl⟩, .inr ⟨ys ++ [p], trivial, hJx4⟩⟩
      · obtain rfl : k = C.length := by omega
        have HS2 := Lib.hid HS.out
        rw [List.take_length] at HS2
        obtain ⟨p, hp⟩ : ∃ p : Str X.length, p.1 = (f, T, a) := ⟨⟨(f, T, a), hab⟩, rfl⟩
        have HS3 : Hid ((ys ++ [p]).map (·.1) = strL X F T) := Lib.hid (by rw [HV.out, HS2.out, List.map_append, List.map_cons, hp]; rfl)
        obtain ⟨fn, tmps, assign, body, hy, hR⟩ := hY ys p wr HJr.out (by omega)
        rw [hp] at hy
        clear hab hob hyl hp
        gi_wp2
        refine hR.mono ?_
        rintro e W4 (⟨rfl, hJ4, hk4⟩ | ⟨rfl, hJx4⟩)
        · gi_wp2
          simp only [Exit.noGoto]
          go_end0
          exact ⟨⟨_, rfl⟩, .inl ⟨ys ++ [p], HS3.out, hJ4⟩⟩
        · gi_wp2
          simp only [Exit.noGoto]
          go_end0
          exact ⟨⟨_, rfl⟩, .inr ⟨ys ++ [p], trivial, hJx4⟩⟩
end Go.Proofs.YtmngghglcgmkeaaGreatDoor

namespace Go.Proofs.YtmngghglcgmkeaaGreatDoor
open Go.RowKit Go.Sort

attribute [local go_sem] Oper.semAt_some

theorem KX.grown {ob : Nat} {W W' : World} {row : Option Nat} (g : W.grownBy W' row) (hr : ∀ r, row = some r → r ≠ ob ∧ ∃ o : Obj, W.heap[r]? = some o ∧ o.isCells = false) (ho : ob < W.heap.size) : KX ob W W' := by
  refine ⟨g.size, fun k o hk hc _ _ => ?_, .inl (rowAt_block (g.block ob ho fun he => (hr ob he.symm).1 rfl))⟩
  refine (g.block k (Array.getElem?_eq_some_iff.1 hk).1 fun he => ?_).trans hk
  obtain ⟨_, o', h1, h2⟩ := hr k he.symm
  rw [hk] at h1
  cases h1
  rw [hc] at h2
  cases h2
theorem ownFrom_kx {β : Type} {ob B : Nat} {W0 : World} (ho : ob < W0.heap.size) (hB : ob < B) : OwnFrom B (fun (_ : β) W => KX ob W0 W) := fun _ _ _ _ h g hr =>
  h.trans (KX.grown g (fun r e => ⟨by have := (hr r e).1; omega, (hr r e).2⟩) (Nat.lt_of_lt_of_le ho h.size))
theorem ownFrom_bk {β : Type} {B g : Nat} {t : TypeId} {cs : Array Value} : OwnFrom B (fun (_ : β) W => Bk g t cs W) := fun _ A _ _ h gr hr =>
  (gr.block g h.lt fun he => by
    obtain ⟨_, o, h1, h2⟩ := hr g he.symm
    unfold Bk at h
    rw [h] at h1
    cases h1
    cases h2).trans h
theorem str_stops (n : Nat) (hn : 1 ≤ n) (sb lb ob n₀ cap : Nat) (A : Option Addr) (X : List Kn) (F T : Int) (hX : X.length ≤ 4096)
    (w : World) (hob : ob < w.heap.size) (hlb : lb < w.heap.size ∧ lb ≠ ob) (hsb : sb < w.heap.size ∧ sb ≠ ob) (hn₀ : n₀ ≤ ob)
    (cl : w.cell? ⟨lb, 0, none⟩ = some (.slice A X.length cap)) (cs0 : w.cell? ⟨sb, 0, none⟩ = some (.int .i64 F)) (cs1 : w.cell? ⟨sb, 1, none⟩ = some (.int .i64 T))
    (hs : Sl encK 9 w n₀ A X) (hrow : rowAt ob w = none) :
    SeqStopsK Fence.wide n Tryz.prog 92 #[.pointer (some ⟨sb, 0, none⟩), .pointer (some ⟨lb, 0, none⟩)] (fun p : Str X.length => #[.agg #[.int .i64 p.1.1, .int .i64 p.1.2.1], .int .i64 p.1.2.2]) (KX ob)
      (fun ys => ys.map (·.1) = strL X F T) (fun _ => True) ((cutsL X F T).length + 1) w := fun l J Jx W hW hJ _ hY h0 => by
  have hz := hW.size
  exact str1_in n hn l sb lb ob n₀ cap A X F T hX J Jx (fun s A B hs hg => hJ s A B none hs hg (fun r e => by cases e)) hY W (by omega) ⟨by omega, hlb.2⟩ ⟨by omega, hsb.2⟩ hn₀
    ((hW.cell (p := ⟨lb, 0, none⟩) hlb.1).trans cl) ((hW.cell (p := ⟨sb, 0, none⟩) hsb.1).trans cs0) ((hW.cell (p := ⟨sb, 1, none⟩) hsb.1).trans cs1)
    (fun hne => by
      obtain ⟨b, off, e, hb, hc⟩ := hs hne
      exact ⟨b, off, e, hb, fun i x hx j u hu => (hW.cell (p := ⟨b, _, none⟩) (by dsimp; omega)).trans (hc i x hx j u hu)⟩)
    ((rowAt_block (hW.block ob hob)).trans hrow) h0
theorem li_stretches (X : List Kn) (F T : Int) (A : Option Addr) (cap : Nat) (w : World) :
    Calls Tryz.prog 59 #[.agg #[.slice A X.length cap], .agg #[.int .i64 F, .int .i64 T]] w fun e w' => e = .returned (.func (.func 92) #[] #[.pointer (some ⟨w.heap.size + 1, 0, none⟩), .pointer (some ⟨w.heap.size, 0, none⟩)]) ∧ w' = (w.alloc (.cells #[.slice A X.length cap] 84)).alloc (.cells #[.int .i64 F, .int .i64 T] 28) := by
  go_enter Tryz.func59, Tryz.ntmps59
  go_wp2
  go_ret
  exact ⟨rfl, rfl⟩
theorem wpListIn_append_at {Fc : Fence} {n : Nat} {P : Program} (w : World) {ops : Array Oper} {rest : List Oper} {o : Oper} {a : Act} {Q : Exit → Act → World → Prop}
    (hg : o.guard = none) (s x : Operand) (t : TypeId) (hop : o.op = Op.call { callee := Callee.builtin Builtin.append, args := #[s, x], argTypes := #[t, t] })
    (base : Nat) (e : TypeId) (i : TypeInfo) (z : Value) (size bytes : Nat) (h1 : P.underlying t = some (.slice e)) (h2 : P.info? e = some i) (h3 : i.zero = some z) (h4 : i.size = size) (h5 : i.bytes = bytes) (h6 : z.cells.size = size) (h7 : 0 < size)
    (v : Value) (k : Nat) (xs : List Value) (hs : a.eval s = v) (hown : w.ownsRow base e size v k xs) (ad : Addr) (m c : Nat) (news : List Value) (hx : a.eval x = .slice (some ad) m c) (hn : news.length = m * size)
    (hc : ∀ j u, news[j]? = some u → w.cell? (ad.add j) = some u) (h1c : ∀ u ∈ news, u.oneCell' = true) (b1 : k + m ≤ maxLen) (b2 : (k + m) * bytes ≤ 140737488355328) (b3 : base ≤ w.heap.size)
    (hK : ∀ v' w', w'.ownsRow base e size v' (k + m) (xs ++ news) → w.grownBy w' v.ownBlock → (v'.ownBlock = v.ownBlock ∨ v'.ownBlock = some w.heap.size) → wpListIn Fc n P ops Q rest (a.put o.dst v') w') :
    wpListIn Fc n P ops Q (o :: rest) a w := by
  refine wpListIn_plain hg fun K hK' => ?_
  obtain ⟨v', w', hrun, r1, r2, _, r3⟩ := run_append_own_at (P := P) w base t o.type e i z size bytes h1 h2 h3 h4 h5 h6 h7 v k xs hown ad m c news hn hc h1c b1 b2 b3
  unfold Oper.wpIn
  refine ⟨?_, ?_⟩
  · simp [Oper.about, hop, resolve, Target.leads, Sem.run_pure]
  · rw [Oper.semAt_plain Fc _ _ (by rw [hop]; intro c hc'; cases hc')]
    simp [execOp, hop, resolve, invoke, builtin, hs, hx, hrun, Result.andThen]
    exact hK' _ _ (hK v' w' r1 r2 r3)
theorem rowAt_box {W : World} {ob : Nat} {t : TypeId} {v : Value} (h : Boxed W ob t v) : rowAt ob W = v.ownBlock := by
  unfold rowAt
  rw [h.cell]
  rfl
/-- Behind 'out = append(out, ..)' into a box. -/
theorem KX.app {W w1 : World} {ob n₀ size k : Nat} {t e : TypeId} {v v' : Value} {xs : List Value} {tmp : Obj} (hv : Boxed W ob t v) (hte : t ≠ e) (hrow : W.ownsRow n₀ e size v k xs) 
    (hg : (W.alloc tmp).grownBy w1 v.ownBlock) (h : v'.ownBlock = v.ownBlock ∨ v'.ownBlock = some (W.alloc tmp).heap.size) : KX ob W (w1.setCell ⟨ob, 0, none⟩ v') := by
  have hz := hg.size
  have hs := World.size_alloc W tmp
  have g2 := grownBy_setCell' w1 ob v'
  have hz2 := g2.size
  have hv1 : Boxed w1 ob t v := (hv.alloc tmp).kept hg (hv.not_row hte hrow)
  have hb := hv1.set v'
  refine ⟨by omega, fun j o hj hc hne hr => ?_, ?_⟩
  · have hlt := (Array.getElem?_eq_some_iff.1 hj).1
    rw [rowAt_box hv] at hr
    refine ((g2.block j (by omega) fun he => hne (by injection he)).trans ((hg.block j (by omega) fun he => hr he.symm).trans (Below.heap_alloc W tmp j hlt))).trans hj
  · rw [rowAt_box hb, rowAt_box hv]
    rcases h with h | h
    · exact .inl h
    · exact .inr ⟨_, h, by omega⟩
/-- Days on which the value changes. -/
def chgS (F : Int) (l : List (Int × Int × Int)) : List Int := l.filterMap fun p => if F < p.1 then some p.1 else none
def changesX (X : List Kn) (F T : Int) : List Int := chgS F (strL X F T)
theorem chgS_app (F : Int) (l : List (Int × Int × Int)) (p : Int × Int × Int) : chgS F (l ++ [p]) = chgS F l ++ (if F < p.1 then [p.1] else []) := by
  unfold chgS
  rw [List.filterMap_append]
  congr 1
  by_cases h : F < p.1 <;> simp [h]
theorem chgS_len (F : Int) (l : List (Int × Int × Int)) : (chgS F l).length ≤ l.length := List.length_filterMap_le _ _
end Go.Proofs.YtmngghglcgmkeaaGreatDoor

namespace Go.Proofs.YtmngghglcgmkeaaGreatDoor
open Go.RowKit

theorem Oper.wp_round {l n : Nat} {P : Program} {o : Oper} {a : Act} {w : World} {K : Act → World → Prop} {Q : Exit → Act → World → Prop} (hd : ∀ c, o.op ≠ .defer c) (h : o.wp P a w K Q) : o.wpIn (Fence.wide.inRound l) n P a w K Q := by
  refine ⟨fun _ _ => trivial, ?_⟩
  rw [show (Fence.wide.inRound l).round = some l from rfl, Oper.semAt_some l _ _ hd]
  unfold Oper.wp at h
  generalize (execOp a.eval o).run P w = r at *
  cases r with
  | ok x w' =>
    cases x <;> simp only [Oper.upon, Oper.uponIn] at h ⊢
    all_goals first
      | exact h
      | exact ⟨(fun hh => by simp [Fence.wide] at hh), CallsIn.inRound l (callsIn_wide.2 h)⟩
      | exact ⟨(fun hh => by simp [Fence.wide] at hh), fun c cs _ => let ⟨v, w', r, s⟩ := h c cs; ⟨v, w', r, stepsIn_wide.2 s⟩⟩
      | exact h.elim
  | halt x w' => cases x <;> simp only [Oper.upon, Oper.uponIn] at h ⊢ <;> first | exact h | exact h.elim
section
variable {P : Program} {ops : Array Oper} {Q : Exit → Act → World → Prop} {l n : Nat}
theorem wpAnyIn_inv (hdf : ∀ (i : Nat) (o : Oper), ops[i]? = some o → ∀ c, o.op ≠ .defer c) (Inv : Array Bool → Act → World → Prop) (he : earlierC ops = true)
    (hop : ∀ (i : Nat) (o : Oper), ops[i]? = some o → ∀ (listed : Array Bool) (a : Act) (w : World), listed.size = ops.size → listed.getD i false = false → (∀ e ∈ o.after, Region.binds .any e = true → listed.getD e.on false = true) → Inv listed a w →
      (Region.wanted o (yielded ops a.tmps) = true ∧ o.wp P a w (fun a' w' => Inv (listed.setIfInBounds i true) a' w') Q) ∨ (Region.wanted o (yielded ops a.tmps) = false ∧ Inv (listed.setIfInBounds i true) (a.put o.dst undef) w))
    (hend : ∀ listed a w, (∀ i, i < ops.size → listed.getD i false = true) → Inv listed a w → Q .normal a w) :
    ∀ (fuel : Nat) (listed : Array Bool) (a : Act) (w : World), listed.toList.count false ≤ fuel → listed.size = ops.size → Inv listed a w → wpAnyIn (Fence.wide.inRound l) n P .any ops Q fuel listed a w := by
  have hall : ∀ (listed : Array Bool) (a : Act) (w : World), listed.size = ops.size → Inv listed a w → Region.ready .any ops listed = [] → Q .normal a w := by
    intro listed a w hls hI hr
    refine hend listed a w (fun i => ?_) hI
    induction i using Nat.strongRecOn with
    | _ i ih =>
      intro hi
      by_cases hl : listed.getD i false = true
      · exact hl
      · exfalso
        have hmem : i ∈ Region.ready .any ops listed := by
          unfold Region.ready
          rw [List.mem_filter]
          refine ⟨List.mem_range.2 hi, ?_⟩
          have hil : i < listed.size := by rw [hls]; exact hi
          have hlf : listed.getD i true = false := by
            have : listed.getD i false = listed.getD i true := by simp [Array.getD, hil]
            rw [← this]; simpa using hl
          rw [hlf, Array.getElem?_eq_getElem hi]
          simp only [Bool.not_false, Bool.true_and, Option.map_some, Option.getD_some]
          rw [Array.all_eq_true_iff_forall_mem]
          intro e hm
          by_cases hbd : Region.binds .any e = true
          · have hlt : e.on < i := by
              unfold earlierC at he
              rw [List.all_eq_true] at he
              have := he (ops[i], i) (by
                rw [List.mem_zipIdx_iff_getElem?]
                simp [hi])
              rw [Array.all_eq_true_iff_forall_mem] at this
              have h9 := this e hm
              rw [hbd] at h9
              simpa using h9
            rw [ih e.on hlt (by omega)]
            simp
          · simp [hbd]
        rw [hr] at hmem
        cases hmem
  intro fuel
  induction fuel with
  | zero =>
    intro listed a w hc hls hI
    have hr : Region.ready .any ops listed = [] := by
      rw [List.eq_nil_iff_forall_not_mem]
      intro i hi
      unfold Region.ready at hi
      rw [List.mem_filter] at hi
      have h1 := List.mem_range.1 hi.1
      have h2 := hi.2
      rw [Bool.and_eq_true] at h2
      have hil : i < listed.size := by rw [hls]; exact h1
      have : listed[i] = false := by
        have h3 := h2.1
        simpa [Array.getD, hil] using h3
      have h4 : false ∈ listed.toList := by
        rw [← this]
        exact Array.getElem_mem_toList hil
      have := List.count_pos_iff.2 h4
      omega
    exact ⟨hr, hall listed a w hls hI hr⟩
  | succ fuel ih =>
    intro listed a w hc hls hI
    refine ⟨hall listed a w hls hI, fun i hi => ?_⟩
    unfold Region.ready at hi
    rw [List.mem_filter] at hi
    have h1 := List.mem_range.1 hi.1
    have h2 := hi.2
    rw [Bool.and_eq_true] at h2
    have hil : i < listed.size := by rw [hls]; exact h1
    have hli : listed[i] = false := by simpa [Array.getD, hil] using h2.1
    have hoi : ops[i]? = some ops[i] := Array.getElem?_eq_getElem h1
    have haft : ∀ e ∈ ops[i].after, Region.binds .any e = true → listed.getD e.on false = true := by
      intro e hm hb
      have h3 := h2.2
      rw [hoi] at h3
      simp only [Option.map_some, Option.getD_some] at h3
      rw [Array.all_eq_true_iff_forall_mem] at h3
      have := h3 e hm
      rw [hb] at this
      simpa using this
    have hcnt : (listed.setIfInBounds i true).toList.count false ≤ fuel := by
      have := count_set (l := listed) (i := i) (by rw [Array.getElem?_eq_getElem hil, hli])
      omega
    have hsz : (listed.setIfInBounds i true).size = ops.size := by rw [Array.size_setIfInBounds]; exact hls
    unfold wpOpIn
    rw [hoi]
    show if Region.wanted ops[i] (yielded ops a.tmps) = true then _ else _
    rcases hop i ops[i] hoi listed a w hls (by simp [Array.getD, hil, hli]) haft hI with ⟨hw, hwp⟩ | ⟨hw, hin⟩
    · rw [if_pos hw]
      exact Oper.wp_round (hdf i _ hoi) (Oper.wp_mono (fun a' w' h => ih _ _ _ hcnt hsz h) hwp)
    · rw [if_neg (by rw [hw]; decide)]
      exact ⟨fun _ _ => trivial, ih _ _ _ hcnt hsz hin⟩
end
/-- The operations that j waits for, through others too. -/
def ancs (ops : Array Oper) : Nat → List Nat → List Nat
  | 0, L => L
  | k + 1, L => ancs ops k (L ++ (L.flatMap fun i => match ops[i]? with
    | some o => o.after.toList.filterMap fun e => if Region.binds .any e then some e.on else none
    | none => []))
theorem ancs_all {ops : Array Oper} {listed : Array Bool} (hcl : ∀ (i : Nat) (o : Oper), ops[i]? = some o → listed.getD i false = true → ∀ e ∈ o.after, Region.binds .any e = true → listed.getD e.on false = true) :
    ∀ (k : Nat) (L : List Nat), (∀ i ∈ L, listed.getD i false = true) → ∀ i ∈ ancs ops k L, listed.getD i false = true
  | 0, _, h => h
  | k + 1, L, h => by
    refine ancs_all hcl k _ fun i hi => ?_
    rcases List.mem_append.1 hi with hi | hi
    · exact h i hi
    · obtain ⟨j, hj, hij⟩ := List.mem_flatMap.1 hi
      cases ho : ops[j]? with
      | none => rw [ho] at hij; cases hij
      | some o =>
        rw [ho] at hij
        obtain ⟨e, he, hx⟩ := List.mem_filterMap.1 hij
        split at hx
        · rename_i hb
          injection hx with hx
          subst hx
          exact hcl j o ho (h j hj) e (by simpa using he) hb
        · cases hx
/-- Operation it waits for all others but is; is waits for it. -/
def tailB (ops : Array Oper) (it is : Nat) : Bool :=
  ((List.range ops.size).all fun i => i == it || i == is || (ancs ops ops.size (match ops[it]? with
    | some o => o.after.toList.filterMap fun e => if Region.binds .any e then some e.on else none
    | none => [])).contains i) && edgeB ops is it && decide (it < ops.size) && decide (is < ops.size) && !(it == is) && ops.toList.all fun o => match o.op with
    | .defer _ => false
    | _ => true
/-- What is asked of an operation: nothing of the last two. -/
def TailOk (P : Program) (ops : Array Oper) (Q : Exit → Act → World → Prop) (SP : Nat → Value → World → Prop) (a0 : Act) (w0 : World) (it is : Nat) (i : Nat) (o : Oper) : Prop := i = it ∨ i = is ∨ OpOk P .any ops Q SP a0 w0 o
theorem tail_n {P : Program} {ops : Array Oper} {Q : Exit → Act → World → Prop} {SP : Nat → Value → World → Prop} {a0 : Act} {w0 : World} {it is i : Nat} {o : Oper} (h : OpOk P .any ops Q SP a0 w0 o) : TailOk P ops Q SP a0 w0 it is i o := .inr (.inr h)
theorem tail_t {P : Program} {ops : Array Oper} {Q : Exit → Act → World → Prop} {SP : Nat → Value → World → Prop} {a0 : Act} {w0 : World} {it is : Nat} {o : Oper} : TailOk P ops Q SP a0 w0 it is it o := .inl rfl
theorem tail_s {P : Program} {ops : Array Oper} {Q : Exit → Act → World → Prop} {SP : Nat → Value → World → Prop} {a0 : Act} {w0 : World} {it is : Nat} {o : Oper} : TailOk P ops Q SP a0 w0 it is is o := .inr (.inl rfl)
/-- Neither of two operations yields into slot t. -/
def notTailB (ops : Array Oper) (it is t : Nat) : Bool := ops.toList.zipIdx.all fun p => !(p.1.dst == some t) || (p.2 != it && p.2 != is)
theorem notTail_of {ops : Array Oper} {it is t : Nat} (h : notTailB ops it is t = true) (i : Nat) (o : Oper) (ho : ops[i]? = some o) (hd : o.dst = some t) : i ≠ it ∧ i ≠ is := by
  unfold notTailB at h
  rw [List.all_eq_true] at h
  have := h (o, i) (by
    rw [List.mem_zipIdx_iff_getElem?]
    simpa using ho)
  simpa [hd] using this
theorem wpIn_region_tail {P : Program} {id l n : Nat} {ops : Array Oper} {Q : Exit → Act → World → Prop} {a0 : Act} {w0 : World} (SP : Nat → Value → World → Prop) (it is : Nat) (hm : P.follows .mixedOrders = true) (he : earlierC ops = true) (htb : tailB ops it is = true)
    (hst : ∀ t v w w', SP t v w → Below w.heap.size w w' → SP t v w')
    (hsz : (ops.toList.all fun o => match o.dst with | some d => decide (d < a0.tmps.size) | none => true) = true)
    (h0 : ∀ t, noDstB ops t = true → SP t (a0.tmps.getD t undef) w0)
    (hop : ∀ (i : Nat) (o : Oper), ops[i]? = some o → TailOk P ops Q SP a0 w0 it is i o)
    (htl : ∀ (oT oS : Oper), ops[it]? = some oT → ops[is]? = some oS → ∀ a w, Below w0.heap.size w0 w → a.tmps.size = a0.tmps.size → a.defers = a0.defers → (∀ t, noDstB ops t = true → a.tmps.getD t undef = a0.tmps.getD t undef) →
      (∀ t, notTailB ops it is t = true → SP t (a.tmps.getD t undef) w) →
      oT.guard = none ∧ oS.guard = none ∧ oT.wp P a w (fun a' w' => oS.wp P a' w' (fun a'' w'' => Q .normal a'' w'') Q) Q) : (Code.region id ops true).wpIn (Fence.wide.inRound l) n P Q a0 w0 := by
  unfold tailB at htb
  simp only [Bool.and_eq_true, decide_eq_true_eq, Bool.not_eq_true', beq_eq_false_iff_ne] at htb
  obtain ⟨⟨⟨⟨⟨ha, hes⟩, hit⟩, his⟩, hne⟩, hdf⟩ := htb
  have hsz' : ∀ (i : Nat) (o : Oper) d, ops[i]? = some o → o.dst = some d → d < a0.tmps.size := by
    intro i o d ho hd
    rw [List.all_eq_true] at hsz
    have := hsz o (by
      have := Array.mem_of_getElem? ho
      simpa using this)
    rw [hd] at this
    exact of_decide_eq_true this
  have hdf' : ∀ (i : Nat) (o : Oper), ops[i]? = some o → ∀ c, o.op ≠ .defer c := by
    intro i o ho c hc
    rw [List.all_eq_true] at hdf
    have := hdf o (by
      have := Array.mem_of_getElem? ho
      simpa using this)
    rw [hc] at this
    cases this
  obtain ⟨oT, hoT⟩ : ∃ o, ops[it]? = some o := ⟨_, Array.getElem?_eq_getElem hit⟩
  obtain ⟨oS, hoS⟩ : ∃ o, ops[is]? = some o := ⟨_, Array.getElem?_eq_getElem his⟩
  refine wpIn_region_any hm ?_
  have hcount : (Array.replicate ops.size false).toList.count false ≤ ops.size := by
    have := List.count_le_length (a := false) (l := (Array.replicate ops.size false).toList)
    rw [Array.length_toList, Array.size_replicate] at this
    exact this
  have hrep : ∀ j : Nat, (Array.replicate ops.size false).getD j false = false := fun j => by
    simp [Array.getD_eq_getD_getElem?, Array.getElem?_replicate]
    split <;> rfl
  have hdrew : Below w0.heap.size w0 { w0 with drawn := w0.drawn + 1 } := bDrew w0
  refine wpAnyIn_inv hdf' (fun listed a w =>
    (listed.getD it false = false ∧ listed.getD is false = false ∧ RInvA ops SP [] a0 w0 listed a w) ∨
    (listed.getD it false = true ∧ listed.getD is false = false ∧ (∀ i, i < ops.size → i ≠ is → listed.getD i false = true) ∧ oS.guard = none ∧ oS.wp P a w (fun a'' w'' => Q .normal a'' w'') Q) ∨
    ((∀ i, i < ops.size → listed.getD i false = true) ∧ Q .normal a w)) he ?_ ?_ _ _ _ _ hcount (by simp) (.inl ⟨hrep it, hrep is, hdrew, rfl, rfl, fun _ _ => rfl, (fun i _ _ h => by rw [hrep i] at h; cases h), fun t ht => ?_, (fun p hp => by cases hp), (fun p hp => by cases hp)⟩)
  · intro i o hoi listed a w hls hli haft hI
    have hil : i < ops.size := (Array.getElem?_eq_some_iff.1 hoi).1
    rcases hI with ⟨h1, h2, hR⟩ | ⟨h1, h2, h3, hg, hq⟩ | ⟨h1, _⟩
    · by_cases hi1 : i = it
      · subst hi1
        rw [hoT] at hoi
        injection hoi with hoi
        subst hoi
        have hall : ∀ j, j < ops.size → j ≠ i → j ≠ is → listed.getD j false = true := by
          intro j hj hj1 hj2
          rw [List.all_eq_true] at ha
          have h4 := ha j (List.mem_range.2 hj)
          simp only [Bool.or_eq_true, beq_iff_eq, hj1, hj2, false_or, List.contains_iff_mem] at h4
          rw [hoT] at h4
          refine ancs_all hR.cl _ _ ?_ j h4
          intro k hk
          obtain ⟨e, he1, hx⟩ := List.mem_filterMap.1 hk
          split at hx
          · rename_i hb
            injection hx with hx
            subst hx
            exact haft e (by simpa using he1) hb
          · cases hx
        obtain ⟨g1, g2, hwp⟩ := htl _ _ hoT hoS a w hR.bel hR.size hR.defs hR.kp fun t ht => hR.sp t fun j oj hj hd => by
          have := notTail_of ht j oj hj hd
          exact hall j (Array.getElem?_eq_some_iff.1 hj).1 this.1 this.2
        refine .inl ⟨by simp [Region.wanted, g1], Oper.wp_mono (fun a' w' h => .inr (.inl ⟨?_, ?_, ?_, g2, h⟩)) hwp⟩
        · simp [Array.getD, hls, hil]
        · rw [getD_set_ne false (by omega)]; exact h2
        · intro j hj hj2
          by_cases hji : i = j
          · subst hji; simp [Array.getD, hls, hil]
          · rw [getD_set_ne false hji]; exact hall j hj (fun e => hji e.symm) hj2
      · by_cases hi2 : i = is
        · subst hi2
          exfalso
          unfold edgeB at hes
          rw [hoi] at hes
          simp only [Array.any_eq_true, Bool.and_eq_true, beq_iff_eq] at hes
          obtain ⟨x, hx, hb, hon⟩ := hes
          have := haft _ (Array.getElem_mem hx) hb
          rw [hon, h1] at this
          cases this
        · have hk : OpOk P .any ops Q SP a0 w0 o := by
            rcases hop i o hoi with h | h | h
            · exact absurd h hi1
            · exact absurd h hi2
            · exact h
          have hkeep : ∀ j, j = it ∨ j = is → (listed.setIfInBounds i true).getD j false = listed.getD j false := fun j hj => getD_set_ne false (by rcases hj with rfl | rfl <;> assumption)
          rcases rinvA_op (ms := []) hst (fun p hp => by cases hp) (fun p hp => by cases hp) (fun p hp => by cases hp) hsz' i o hoi (.inl ⟨hk, fun p hp => by cases hp⟩) listed a w hls hli haft hR with ⟨hw, hwp⟩ | ⟨hw, hR2⟩
          · exact .inl ⟨hw, Oper.wp_mono (fun a' w' h => .inl ⟨by rw [hkeep it (.inl rfl)]; exact h1, by rw [hkeep is (.inr rfl)]; exact h2, h⟩) hwp⟩
          · exact .inr ⟨hw, .inl ⟨by rw [hkeep it (.inl rfl)]; exact h1, by rw [hkeep is (.inr rfl)]; exact h2, hR2⟩⟩
    · by_cases hi2 : i = is
      · subst hi2
        rw [hoS] at hoi
        injection hoi with hoi
        subst hoi
        refine .inl ⟨by simp [Region.wanted, hg], Oper.wp_mono (fun a' w' h => .inr (.inr ⟨?_, h⟩)) hq⟩
        intro j hj
        by_cases hji : i = j
        · subst hji; simp [Array.getD, hls, hil]
        · rw [getD_set_ne false hji]; exact h3 j hj (fun e => hji e.symm)
      · rw [h3 i hil hi2] at hli; cases hli
    · rw [h1 i hil] at hli; cases hli
  · intro listed a w hl hI
    rcases hI with ⟨h1, _⟩ | ⟨_, h2, _⟩ | ⟨_, h⟩
    · rw [hl it hit] at h1; cases h1
    · rw [hl is his] at h2; cases h2
    · exact h
  · refine hst t _ _ _ (h0 t ?_) hdrew
    unfold noDstB
    rw [List.all_eq_true]
    intro o ho
    obtain ⟨i, hi, hio⟩ := List.getElem_of_mem ho
    by_cases hd : o.dst = some t
    · have := ht i o (by rw [← Array.getElem?_toList, List.getElem?_eq_getElem hi, hio]) hd
      rw [hrep i] at this
      cases this
    · simpa using hd
end Go.Proofs.YtmngghglcgmkeaaGreatDoor

namespace Go.Proofs.YtmngghglcgmkeaaGreatDoor
open Go.RowKit Go.Sort

attribute [local go_sem] Oper.semAt_some

abbrev Pc := Int × Int × Int × Int × ByteArray
def encPc (x : Pc) : List Value := [.int .i64 x.1, .int .i64 x.2.1, .int .i64 x.2.2.1, .int .i64 x.2.2.2.1, .string x.2.2.2.2]
theorem encPc_len (x : Pc) : (encPc x).length = 5 := rfl
abbrev OwnPc (B : Nat) (v : Value) (l : List Pc) (w : World) : Prop := Own encPc 5 90 B v l w
theorem pieceInfo : (Tryz.prog.info? 90).map (fun i => (i.zero, i.size, i.bytes)) = some (some (.agg #[.int .i64 0, .int .i64 0, .int .i64 0, .int .i64 0, .string ⟨#[]⟩]), 5, 48) := by kernel_rfl
/-- The pieces of stretches: those with a fact in force, and its value. -/
def ovrS (X : List Kn) (l : List (Int × Int × Int)) : List Pc := l.filterMap fun p => if 0 ≤ p.2.2 then some (p.1, p.2.1, valL X p.2.2) else none
def overX (X : List Kn) (F T : Int) : List Pc := ovrS X (strL X F T)
theorem ovrS_app (X : List Kn) (l : List (Int × Int × Int)) (p : Int × Int × Int) : ovrS X (l ++ [p]) = ovrS X l ++ (if 0 ≤ p.2.2 then [(p.1, p.2.1, valL X p.2.2)] else []) := by
  unfold ovrS
  rw [List.filterMap_append]
  congr 1
  by_cases h : 0 ≤ p.2.2 <;> simp [h]
theorem ovrS_len (X : List Kn) (l : List (Int × Int × Int)) : (ovrS X l).length ≤ l.length := List.length_filterMap_le _ _
/-- A slice of one element, in a block made since. -/
def spRow (B : Nat) (T : TypeId) (cs : Array Value) : Sp := ⟨fun v w => ∃ b, v = .slice (some ⟨b, 0, none⟩) 1 1 ∧ B ≤ b ∧ Bk b T cs w, fun _ _ _ ⟨b, h1, h2, h3⟩ hb => ⟨b, h1, h2, (hb.block b h3.lt).trans h3⟩⟩
theorem opOk_new {P : Program} {ops : Array Oper} {Q : Exit → Act → World → Prop} {SP : Nat → Value → World → Prop} {a0 : Act} {w0 : World} {o : Oper} {d : Nat} (hd : o.dst = some d) (hg : GOk ops SP o)
    (h : ∀ (a : Act) (w : World), Below w0.heap.size w0 w → (∀ t, waitsB .any ops o t = true → SP t (a.tmps.getD t undef) w) → ∃ v obj, (execOp a.eval o).run P w = .ok (.value v) (w.alloc obj) ∧ SP d v (w.alloc obj)) : OpOk P .any ops Q SP a0 w0 o :=
  fun a w hb _ _ hsp => ⟨wanted_of hg hsp, by
    obtain ⟨v, obj, hr, hs⟩ := h a w hb hsp
    unfold Oper.wp
    rw [hr]
    exact ⟨v, rfl, bAlloc w obj, fun e he => by rw [hd] at he; injection he with he; subst he; exact hs⟩⟩
theorem wp_append_at {P : Program} {w : World} {o : Oper} {a : Act} {K : Act → World → Prop} {Q : Exit → Act → World → Prop}
    (s x : Operand) (t : TypeId) (hop : o.op = Op.call { callee := Callee.builtin Builtin.append, args := #[s, x], argTypes := #[t, t] })
    (base : Nat) (e : TypeId) (i : TypeInfo) (z : Value) (size bytes : Nat) (h1 : P.underlying t = some (.slice e)) (h2 : P.info? e = some i) (h3 : i.zero = some z) (h4 : i.size = size) (h5 : i.bytes = bytes) (h6 : z.cells.size = size) (h7 : 0 < size)
    (v : Value) (k : Nat) (xs : List Value) (hs : a.eval s = v) (hown : w.ownsRow base e size v k xs) (ad : Addr) (m c : Nat) (news : List Value) (hx : a.eval x = .slice (some ad) m c) (hn : news.length = m * size)
    (hc : ∀ j u, news[j]? = some u → w.cell? (ad.add j) = some u) (h1c : ∀ u ∈ news, u.oneCell' = true) (b1 : k + m ≤ maxLen) (b2 : (k + m) * bytes ≤ 140737488355328) (b3 : base ≤ w.heap.size)
    (hK : ∀ v' w', w'.ownsRow base e size v' (k + m) (xs ++ news) → w.grownBy w' v.ownBlock → (v'.ownBlock = v.ownBlock ∨ v'.ownBlock = some w.heap.size) → K (a.put o.dst v') w') : o.wp P a w K Q := by
  obtain ⟨v', w', hrun, r1, r2, _, r3⟩ := run_append_own_at (P := P) w base t o.type e i z size bytes h1 h2 h3 h4 h5 h6 h7 v k xs hown ad m c news hn hc h1c b1 b2 b3
  unfold Oper.wp execOp
  simp only [hop, resolve, invoke, builtin, Sem.run_bind, Sem.run_pure, Result.andThen_ok, List.map_toArray, List.map_cons, List.map_nil, hs, hx, hrun]
  exact hK v' w' r1 r2 r3
theorem wp_store_piece {o : Oper} {a : Act} {w : World} {K : Act → World → Prop} {Q : Exit → Act → World → Prop} {d s g n c ob : Nat} {v : Value} (hop : o.op = .store 82 (.tmp d) (.tmp s))
    (hp : a.tmps.getD d undef = .pointer (some ⟨ob, 0, none⟩)) (hs : a.tmps.getD s undef = .slice (some ⟨g, 0, none⟩) n c) (hc : w.cell? ⟨ob, 0, none⟩ = some v) (hf : w.frozen? ⟨ob, 0, none⟩ = false) (h : K (a.put o.dst undef) (w.setCell ⟨ob, 0, none⟩ (.slice (some ⟨g, 0, none⟩) n c))) : o.wp Tryz.prog a w K Q := by
  have h1 : a.eval (.tmp d) = .pointer (some ⟨ob, 0, none⟩) := hp
  have h2 : a.eval (.tmp s) = .slice (some ⟨g, 0, none⟩) n c := hs
  unfold Oper.wp execOp
  simp only [hop, h1, h2]
  go_simp
  exact h
theorem rowB {W w3 : World} {n₀ size k : Nat} {e : TypeId} {v : Value} {xs : List Value} (hrow : W.ownsRow n₀ e size v k xs) (hb3 : Below W.heap.size W w3) : w3.ownsRow n₀ e size v k xs :=
  hrow.kept (row := none) ⟨hb3.os, hb3.tape, hb3.output, hb3.size, fun i hi _ => hb3.block i hi⟩ (by
    rcases hrow.2 with ⟨rfl, _⟩ | ⟨g, cap, cur, rfl, _⟩
    · exact .inl rfl
    · exact .inr (by simp [Value.ownBlock]))
theorem news5 {W : World} {b : Nat} {t : TypeId} {cs : List Value} (h : Bk b t cs.toArray W) : ∀ j u, cs[j]? = some u → W.cell? (Addr.add ⟨b, 0, none⟩ j) = some u := by
  intro j u hu
  have := h.cell j
  simp only [List.getElem?_toArray, hu] at this
  unfold Addr.add
  split
  · rename_i hz; subst hz; simpa using this
  · simpa using this
/-- Behind an append to the row that a box holds, and the store into the box. -/
theorem tail_app {W0 W2 W w3 w4 : World} {ob n₀ size k m B : Nat} {t e : TypeId} {v v' : Value} {xs ys : List Value} (hv : Boxed W ob t v) (hte : t ≠ e) (hrow : W.ownsRow n₀ e size v k xs) (hk : KX ob W2 W) (hB : Below n₀ W0 W) (hn : n₀ ≤ ob) (hob : ob < B)
    (hb3 : Below W.heap.size W w3) (hown' : w4.ownsRow n₀ e size v' m ys) (hg : w3.grownBy w4 v.ownBlock) (hat : v'.ownBlock = v.ownBlock ∨ v'.ownBlock = some w3.heap.size) :
    Boxed w4 ob t v ∧ KeepsFrom B W (w4.setCell ⟨ob, 0, none⟩ v') ∧ KX ob W (w4.setCell ⟨ob, 0, none⟩ v') ∧ (∃ v, Boxed (w4.setCell ⟨ob, 0, none⟩ v') ob t v ∧ (w4.setCell ⟨ob, 0, none⟩ v').ownsRow n₀ e size v m ys ∧ True) ∧ KX ob W2 (w4.setCell ⟨ob, 0, none⟩ v') ∧ Below n₀ W0 (w4.setCell ⟨ob, 0, none⟩ v') := by
  have hz3 := hb3.size
  have hz4 := hg.size
  have hlt := hv.lt
  have hv3 : Boxed w3 ob t v := (hb3.block ob hlt).trans hv
  have hrow3 : w3.ownsRow n₀ e size v k xs := hrow.kept ⟨hb3.os, hb3.tape, hb3.output, hb3.size, fun i hi _ => hb3.block i hi⟩ (row := none) (by
    rcases hrow.2 with ⟨rfl, _⟩ | ⟨g, cap, cur, rfl, _⟩
    · exact .inl rfl
    · exact .inr (by simp [Value.ownBlock]))
  have hv4 : Boxed w4 ob t v := hv3.kept hg (hv3.not_row hte hrow3)
  have g5 := grownBy_setCell' w4 ob v'
  have hb5 := hv4.set v'
  have hz5 := g5.size
  have hrow5 : (w4.setCell ⟨ob, 0, none⟩ v').ownsRow n₀ e size v' m ys := hown'.kept g5 (.inr (hv4.not_row hte hown').symm)
  have hkx : KX ob W (w4.setCell ⟨ob, 0, none⟩ v') := by
    refine ⟨by omega, fun j o hj hc hne hr => ?_, ?_⟩
    · have hj2 := (Array.getElem?_eq_some_iff.1 hj).1
      rw [rowAt_box hv] at hr
      exact ((g5.block j (by omega) fun he => hne (by injection he)).trans ((hg.block j (by omega) fun he => hr he.symm).trans (hb3.block j hj2))).trans hj
    · rw [rowAt_box hb5, rowAt_box hv]
      rcases hat with h | h
      · exact .inl h
      · exact .inr ⟨_, h, by omega⟩
  have hkf : KeepsFrom B W (w4.setCell ⟨ob, 0, none⟩ v') := by
    refine ⟨by omega, fun j o hBj hj hc => ?_⟩
    have hj2 := (Array.getElem?_eq_some_iff.1 hj).1
    refine ((g5.block j (by omega) fun he => by injection he with he; omega).trans ((hg.block j (by omega) fun he => ?_).trans (hb3.block j hj2))).trans hj
    rcases hrow.2 with ⟨rfl, _⟩ | ⟨g, cap, cur, rfl, _, hgb, _⟩
    · cases he
    · have : j = g := by simpa [Value.ownBlock] using he
      subst this
      rw [hj] at hgb
      cases hgb
      cases hc
  refine ⟨hv4, hkf, hkx, ⟨v', hb5, hrow5, trivial⟩, hk.trans hkx, ?_⟩
  have hbn : Below n₀ W w4 := by
    have hnW : n₀ ≤ W.heap.size := by omega
    refine ⟨hg.os.trans hb3.os, hg.tape.trans hb3.tape, hg.output.trans hb3.output, by omega, fun i hi => (hg.block i (by omega) fun he => ?_).trans (hb3.block i (by omega))⟩
    rcases hrow.2 with ⟨rfl, _⟩ | ⟨g, cap, cur, rfl, hb, _⟩
    · cases he
    · have : i = g := by simpa [Value.ownBlock] using he
      omega
  exact hB.trans (hbn.setCell (p := ⟨ob, 0, none⟩) hn v')
set_option maxHeartbeats 8000000 in
set_option maxRecDepth 100000 in
theorem li_Over_in (X : List Kn) (F T : Int) (A : Option Addr) (cap : Nat) (w : World) (hX : X.length ≤ 4096) (hs : SlK1 w A X) :
    CallsIn Fence.wide 5 Tryz.prog 32 #[.agg #[.slice A X.length cap], .agg #[.int .i64 F, .int .i64 T]] w fun e w' => (∃ v, e = .returned v ∧ OwnPc w.heap.size v (overX X F T) w') ∧ Below w.heap.size w w' := by
  refine callsIn_of_wp_marks Tryz.func32 rfl trivial ?_ rfl
  simp only [Tryz.ntmps32, List.size_toArray, List.length_cons, List.length_nil, Nat.reduceAdd, Nat.reduceSub, Array.replicate_succ, Array.replicate_zero, List.push_toArray, List.append_toArray, List.nil_append, List.cons_append]
  gi_wp2
  refine ⟨trivial, (callsIn_wide.2 (li_stretches X F T A cap _)).mono ?_⟩
  rintro e w1 ⟨rfl, rfl⟩
  gi_wp2
  obtain ⟨W2, hW2⟩ : ∃ W2 : World, (((((w.alloc (.cells #[.slice A X.length cap] 84)).alloc (.cells #[.int .i64 F, .int .i64 T] 28)).alloc (.cells #[.slice none 0 0] 82)).alloc (.cells #[.slice A X.length cap] 84)).alloc (.cells #[.int .i64 F, .int .i64 T] 28)) = W2 := ⟨_, rfl⟩
  rw [hW2]
  have hz2 : W2.heap.size = w.heap.size + 5 := by rw [← hW2]; simp
  have hb2 : Below w.heap.size w W2 := by rw [← hW2]; exact (((((Below.refl _ w).alloc (Nat.le_refl _) _).alloc (by simp) _).alloc (by simp; omega) _).alloc (by simp; omega) _).alloc (by simp; omega) _
  have q0 : Bk w.heap.size 84 #[.slice A X.length cap] W2 := by
    rw [← hW2]
    exact ((((Bk.new w 84 #[.slice A X.length cap]).grows (.of_alloc _ _)).grows (.of_alloc _ _)).grows (.of_alloc _ _)).grows (.of_alloc _ _)
  have q1 : Bk (w.heap.size + 1) 28 #[.int .i64 F, .int .i64 T] W2 := by
    rw [← hW2]
    have := Bk.new (w.alloc (.cells #[.slice A X.length cap] 84)) 28 #[.int .i64 F, .int .i64 T]
    rw [World.size_alloc] at this
    exact ((this.grows (.of_alloc _ _)).grows (.of_alloc _ _)).grows (.of_alloc _ _)
  have q2 : Boxed W2 (w.heap.size + 1 + 1) 82 (.slice none 0 0) := by
    rw [← hW2]
    have := Boxed.new ((w.alloc (.cells #[.slice A X.length cap] 84)).alloc (.cells #[.int .i64 F, .int .i64 T] 28)) 82 (.slice none 0 0)
    simp only [World.size_alloc] at this
    exact (this.alloc _).alloc _
  have q3 : Bk (w.heap.size + 1 + 1 + 1) 84 #[.slice A X.length cap] W2 := by
    rw [← hW2]
    have := Bk.new (((w.alloc (.cells #[.slice A X.length cap] 84)).alloc (.cells #[.int .i64 F, .int .i64 T] 28)).alloc (.cells #[.slice none 0 0] 82)) 84 #[.slice A X.length cap]
    simp only [World.size_alloc] at this
    exact this.grows (.of_alloc _ _)
  have q4 : Bk (w.heap.size + 1 + 1 + 1 + 1) 28 #[.int .i64 F, .int .i64 T] W2 := by
    rw [← hW2]
    have := Bk.new ((((w.alloc (.cells #[.slice A X.length cap] 84)).alloc (.cells #[.int .i64 F, .int .i64 T] 28)).alloc (.cells #[.slice none 0 0] 82)).alloc (.cells #[.slice A X.length cap] 84)) 28 #[.int .i64 F, .int .i64 T]
    simp only [World.size_alloc] at this
    exact this
  have hs2 : Sl encK 9 W2 w.heap.size A X := fun hne => by
    obtain ⟨b, off, e, hb, hc⟩ := hs hne
    exact ⟨b, off, e, hb, fun i x hx j u hu => bCell hb2 (hc i x hx j u hu)⟩
  have hr2 : rowAt (w.heap.size + 1 + 1) W2 = none := by rw [rowAt_box q2]; rfl
  have hCL : (cutsL X F T).length ≤ 10000 := by
    have h1 := foldU_len (endsL F T X) []
    have h2 := ends_len F T X
    unfold cutsL
    simp only [List.length_nil] at h1
    omega
  obtain ⟨i0, hi0, hi1, hi2, hi3⟩ := info_parts pieceInfo
  clear hW2 hs
  refine wpIn_rangeFunc_ownH rfl (by omega) (gf := 92) (lb := #[.pointer (some ⟨w.heap.size + 1 + 1 + 1 + 1, 0, none⟩), .pointer (some ⟨w.heap.size + 1 + 1 + 1, 0, none⟩)]) rfl trivial (enters_of Tryz.func92 (by kernel_rfl) rfl)
    (str_stops 4 (by omega) (w.heap.size + 1 + 1 + 1 + 1) (w.heap.size + 1 + 1 + 1) (w.heap.size + 1 + 1) w.heap.size cap A X F T hX W2 (by omega) ⟨by omega, by omega⟩ ⟨by omega, by omega⟩ (by omega) (q3.cell 0) (q4.cell 0) (q4.cell 1) hs2 hr2)
    KX.trans (fun W l o o' hl ho hc _ => KX.put ho hc (by omega)) (Below.refl _ _) (fun _ => rfl)
    (fun pre W => (∃ v, Boxed W (w.heap.size + 1 + 1) 82 v ∧ W.ownsRow w.heap.size 90 5 v (ovrS X (pre.map (·.1))).length (rowOf encPc (ovrS X (pre.map (·.1)))) ∧ True) ∧ KX (w.heap.size + 1 + 1) W2 W ∧ Below w.heap.size w W)
    (fun _ _ _ => False)
    (OwnFrom.and (Own.from (holdsRow_own w.heap.size (w.heap.size + 1 + 1) 82 90 5 (fun pre : List (Str X.length) => (ovrS X (pre.map (·.1))).length) (fun pre => rowOf encPc (ovrS X (pre.map (·.1)))) (fun _ _ => True)) _) (OwnFrom.and (ownFrom_kx (by omega) (by omega)) (ownFrom_below (Nat.le_refl _) (by omega))))
    (fun _ _ _ _ _ h _ _ => h)
    ⟨⟨_, q2, World.ownsRow_nil _ _ _ _, trivial⟩, KX.refl _ _, hb2⟩
    (fun p a' W => ∃ xb, Bk xb 28 #[.int .i64 p.1.1, .int .i64 p.1.2.1] W ∧ a' = { tmps := #[.agg #[.slice A X.length cap], .agg #[.int .i64 F, .int .i64 T], .pointer (some ⟨w.heap.size, 0, none⟩), .pointer (some ⟨w.heap.size + 1, 0, none⟩), .slice none 0 0, .pointer (some ⟨w.heap.size + 1 + 1, 0, none⟩), .pointer (some ⟨xb, 0, none⟩), .int .i64 p.1.2.2, .agg #[.slice A X.length cap], .agg #[.int .i64 F, .int .i64 T], .func (.func 92) #[] #[.pointer (some ⟨w.heap.size + 1 + 1 + 1 + 1, 0, none⟩), .pointer (some ⟨w.heap.size + 1 + 1 + 1, 0, none⟩)], .agg #[.int .i64 p.1.1, .int .i64 p.1.2.1], .int .i64 p.1.2.2, undef, undef, undef, undef, undef, undef, undef, undef, undef, undef, undef], defers := [] })
    (fun x a' s A' B' row h gr hr => by
      obtain ⟨xb, h1, h2⟩ := h
      exact ⟨xb, ownFrom_bk s A' B' row h1 gr hr, h2⟩) ?assign ?body ?done ?stop
  case assign =>
    intro l pre p W K hI hK
    obtain ⟨⟨v, hv, hrow, _⟩, hk, hB⟩ := hI
    have hlt := hv.lt
    gi_wp2
    exact hK _ _ ((KeepsOthers.alloc _ _).from _) (KX.below (bAlloc W _) (Nat.le_refl _) hlt) ⟨⟨v, hv.alloc _, hrow.alloc _, trivial⟩, hk.trans (KX.below (bAlloc W _) (Nat.le_refl _) hlt), bTrans hB (bAlloc W _)⟩ ⟨W.heap.size, Bk.new _ _ _, rfl⟩
  case body =>
    rintro l pre p a' W hl hr ⟨⟨v, hv, hrow, _⟩, hk, hB⟩ ⟨xb, hxb, rfl⟩ hlt
    have hpl := ovrS_len X (pre.map (·.1))
    rw [List.length_map] at hpl
    have HA := Lib.hid (ovrS_app X (pre.map (·.1)) p.1)
    obtain ⟨O, hO⟩ : ∃ O : List Pc, ovrS X (pre.map (·.1)) = O := ⟨_, rfl⟩
    rw [hO] at hrow hpl HA
    clear hO
    by_cases h : 0 ≤ p.1.2.2
    · have b0 : decide (0 ≤ p.1.2.2) = true := decide_eq_true h
      rw [if_pos h] at HA
      obtain ⟨Av, cv, rfl⟩ : ∃ Av cv, v = .slice Av O.length cv := by
        rcases hrow.2 with ⟨rfl, h0⟩ | ⟨g, cap, cur, rfl, _⟩
        · exact ⟨none, 0, by rw [h0]⟩
        · exact ⟨_, _, rfl⟩
      have hobW := hv.lt
      have HCW : Hid (∀ W', Below W.heap.size W W' → W'.cell? ⟨w.heap.size + 1 + 1, 0, none⟩ = some (.slice Av O.length cv) ∧ W'.cell? ⟨xb, 0, none⟩ = some (.int .i64 p.1.1) ∧ W'.cell? ⟨xb, 1, none⟩ = some (.int .i64 p.1.2.1) ∧ W'.cell? ⟨w.heap.size, 0, none⟩ = some (.slice A X.length cap) ∧ SlK1 W' A X) := Lib.hid fun W' hW => by
        have hkw : KX (w.heap.size + 1 + 1) W2 W' := hk.trans (KX.below hW (Nat.le_refl _) hobW)
        have hz := hkw.size
        exact ⟨bCell hW hv.cell, bCell hW (hxb.cell 0), bCell hW (hxb.cell 1), hkw.cell (p := ⟨w.heap.size, 0, none⟩) (q0.cell 0) (by simp; omega) (by rw [hr2]; simp), sl_more (sl_kx hs2 hkw (by omega) (fun k h => by rw [hr2] at h; cases h)) (by omega)⟩
      have HT : Hid (∀ w3, Below W.heap.size W w3 → ∀ b, W.heap.size ≤ b → Bk b 90 #[.int .i64 p.1.1, .int .i64 p.1.2.1, .int .i64 (valL X p.1.2.2).1, .int .i64 (valL X p.1.2.2).2.1, .string (valL X p.1.2.2).2.2] w3 → ∀ (v' : Value) w4, w4.ownsRow w.heap.size 90 5 v' (O.length + 1) (rowOf encPc O ++ [.int .i64 p.1.1, .int .i64 p.1.2.1, .int .i64 (valL X p.1.2.2).1, .int .i64 (valL X p.1.2.2).2.1, .string (valL X p.1.2.2).2.2]) → w3.grownBy w4 (Value.ownBlock (.slice Av O.length cv)) → (v'.ownBlock = Value.ownBlock (.slice Av O.length cv) ∨ v'.ownBlock = some w3.heap.size) →
          Boxed w4 (w.heap.size + 1 + 1) 82 (.slice Av O.length cv) ∧ KeepsFrom W2.heap.size W (w4.setCell ⟨w.heap.size + 1 + 1, 0, none⟩ v') ∧ KX (w.heap.size + 1 + 1) W (w4.setCell ⟨w.heap.size + 1 + 1, 0, none⟩ v') ∧
          (∃ v, Boxed (w4.setCell ⟨w.heap.size + 1 + 1, 0, none⟩ v') (w.heap.size + 1 + 1) 82 v ∧ (w4.setCell ⟨w.heap.size + 1 + 1, 0, none⟩ v').ownsRow w.heap.size 90 5 v (ovrS X ((pre ++ [p]).map (·.1))).length (rowOf encPc (ovrS X ((pre ++ [p]).map (·.1)))) ∧ True) ∧ KX (w.heap.size + 1 + 1) W2 (w4.setCell ⟨w.heap.size + 1 + 1, 0, none⟩ v') ∧ Below w.heap.size w (w4.setCell ⟨w.heap.size + 1 + 1, 0, none⟩ v')) := Lib.hid (by
        intro w3 hb3 b hb hbk v' w4 hown' hgrow hat
        rw [List.map_append, List.map_cons, List.map_nil, HA.out, List.length_append, rowOf_append]
        exact tail_app hv (by decide) hrow hk hB (by omega) (by omega) hb3 hown' hgrow hat)
      clear h hr
      gi_wp2
      refine wpIn_region_tail (SPS [(2, Sp.val (.pointer (some ⟨w.heap.size, 0, none⟩))), (5, Sp.val (.pointer (some ⟨w.heap.size + 1 + 1, 0, none⟩))), (6, Sp.val (.pointer (some ⟨xb, 0, none⟩))), (7, Sp.val (.int .i64 p.1.2.2)), (15, Sp.val (.slice Av O.length cv)), (16, Sp.val (.agg #[.int .i64 p.1.1, .int .i64 p.1.2.1])), (17, Sp.val (.agg #[.slice A X.length cap])), (18, Sp.val (.int .i64 p.1.2.2)), (19, Sp.val (.agg #[.int .i64 (valL X p.1.2.2).1, .int .i64 (valL X p.1.2.2).2.1, .string (valL X p.1.2.2).2.2])), (20, Sp.val (.agg #[.int .i64 p.1.1, .int .i64 p.1.2.1, .int .i64 (valL X p.1.2.2).1, .int .i64 (valL X p.1.2.2).2.1, .string (valL X p.1.2.2).2.2])), (21, (spRow W.heap.size 90 #[.int .i64 p.1.1, .int .i64 p.1.2.1, .int .i64 (valL X p.1.2.2).1, .int .i64 (valL X p.1.2.2).2.1, .string (valL X p.1.2.2).2.2])), (22, Sp.val (.bool true))]) 7 8 (by kernel_rfl) (by kernel_rfl) (by kernel_rfl) (SPS.st _) (by rfl) ?_ ?_ ?_
      · exact sps_start (cons_all rfl (cons_all rfl (cons_all rfl (cons_all rfl (nil_all)))))
      · refine opsK_all ?_
        refine opsK_cons (by
         exact tail_n (opOk_load (p := ⟨w.heap.size + 1 + 1, 0, none⟩) rfl rfl (.inl rfl) (by kernel_rfl) (fun _ _ h => h.get rfl) (fun W hW => by
            obtain ⟨k0, k1, k2, k3, _⟩ := HCW.out _ hW
            exact ⟨.slice Av O.length cv, by go_simp, sps rfl rfl⟩))) ?_
        refine opsK_cons (by
         exact tail_n (opOk_load (p := ⟨xb, 0, none⟩) rfl rfl (.inl rfl) (by kernel_rfl) (fun _ _ h => h.get rfl) (fun W hW => by
            obtain ⟨k0, k1, k2, k3, _⟩ := HCW.out _ hW
            exact ⟨.agg #[.int .i64 p.1.1, .int .i64 p.1.2.1], by go_simp, sps rfl rfl⟩))) ?_
        refine opsK_cons (by
         exact tail_n (opOk_load (p := ⟨w.heap.size, 0, none⟩) rfl rfl (.inl rfl) (by kernel_rfl) (fun _ _ h => h.get rfl) (fun W hW => by
            obtain ⟨k0, k1, k2, k3, _⟩ := HCW.out _ hW
            exact ⟨.agg #[.slice A X.length cap], by go_simp, sps rfl rfl⟩))) ?_
        refine opsK_cons (by
         exact tail_n (opOk_move rfl rfl (.inl rfl) (by kernel_rfl) (fun _ _ h => sps rfl (h.get rfl)))) ?_
        refine opsK_cons (by
         exact tail_n (opOk_callg (fun a => #[a.eval (.tmp 17), a.eval (.tmp 18)]) rfl rfl (.inl rfl) (fun a => by simp only [List.map_toArray, List.map_cons, List.map_nil] <;> rfl) (fun args W => by go_simp) (fun a W hW hsp => by
            have e17 : a.eval (.tmp 17) = .agg #[.slice A X.length cap] := (hsp 17 (by kernel_rfl)).get rfl
            have e18 : a.eval (.tmp 18) = .int .i64 p.1.2.2 := (hsp 18 (by kernel_rfl)).get rfl
            simp only [e17, e18]
            exact (li_value X p.1.2.2 A cap _ (HCW.out _ hW).2.2.2.2 p.2).mono fun e w' ⟨he, hb⟩ => ⟨_, he, hb, sps rfl rfl⟩))) ?_
        refine opsK_cons (by
         exact tail_n (opOk_run rfl (.inl rfl) (fun a W' hW hsp => by
            have f16 : a.tmps[16]?.getD undef = .agg #[.int .i64 p.1.1, .int .i64 p.1.2.1] := by
              have := (hsp 16 (by kernel_rfl)).get rfl
              rw [Array.getD_eq_getD_getElem?] at this
              exact this
            have f19 : a.tmps[19]?.getD undef = .agg #[.int .i64 (valL X p.1.2.2).1, .int .i64 (valL X p.1.2.2).2.1, .string (valL X p.1.2.2).2.2] := by
              have := (hsp 19 (by kernel_rfl)).get rfl
              rw [Array.getD_eq_getD_getElem?] at this
              exact this
            refine ⟨.agg #[.int .i64 p.1.1, .int .i64 p.1.2.1, .int .i64 (valL X p.1.2.2).1, .int .i64 (valL X p.1.2.2).2.1, .string (valL X p.1.2.2).2.2], ?_, sps rfl rfl⟩
            unfold execOp
            go_simp))) ?_
        refine opsK_cons (by
         exact tail_n (opOk_new rfl (.inl rfl) (fun a W' hW hsp => by
            have f20 : a.tmps[20]?.getD undef = .agg #[.int .i64 p.1.1, .int .i64 p.1.2.1, .int .i64 (valL X p.1.2.2).1, .int .i64 (valL X p.1.2.2).2.1, .string (valL X p.1.2.2).2.2] := by
              have := (hsp 20 (by kernel_rfl)).get rfl
              rw [Array.getD_eq_getD_getElem?] at this
              exact this
            refine ⟨.slice (some ⟨W'.heap.size, 0, none⟩) 1 1, .cells #[.int .i64 p.1.1, .int .i64 p.1.2.1, .int .i64 (valL X p.1.2.2).1, .int .i64 (valL X p.1.2.2).2.1, .string (valL X p.1.2.2).2.2] 90, ?_, sps rfl ⟨W'.heap.size, rfl, hW.size, Bk.new _ _ _⟩⟩
            unfold execOp
            go_simp))) ?_
        refine opsK_cons (by
         exact tail_t) ?_
        refine opsK_cons (by
         exact tail_s) ?_
        exact opsK_nil
      intro oT oS h7 h8 a3 w3 hb3 hsz hdf hkp hsp
      obtain ⟨b21, e21, hb21, hk21⟩ := (hsp 21 (by kernel_rfl)).get rfl
      have e15 : a3.eval (.tmp 15) = .slice Av O.length cv := (hsp 15 (by kernel_rfl)).get rfl
      have e5 : a3.eval (.tmp 5) = .pointer (some ⟨w.heap.size + 1 + 1, 0, none⟩) := (hsp 5 (by kernel_rfl)).get rfl
      have e21' : a3.eval (.tmp 21) = .slice (some ⟨b21, 0, none⟩) 1 1 := e21
      have hs24 : 22 < a3.tmps.size := by rw [hsz]; exact (by decide : 22 < 24)
      cases h7
      cases h8
      refine ⟨rfl, rfl, ?_⟩
      refine wp_append_at (.tmp 15) (.tmp 21) 82 rfl w.heap.size 90 i0 _ 5 48 Tryz.underlying82 hi0 hi1 hi2 hi3 rfl (by decide) _ _ _ e15 (rowB hrow hb3) ⟨b21, 0, none⟩ 1 1 [.int .i64 p.1.1, .int .i64 p.1.2.1, .int .i64 (valL X p.1.2.2).1, .int .i64 (valL X p.1.2.2).2.1, .string (valL X p.1.2.2).2.2] e21' rfl (news5 hk21) (by simp [Value.oneCell']) (by simp only [maxLen]; omega) (by omega) (by have := hB.size; have := hb3.size; omega) ?_
      intro v' w4 hown' hgrow hat
      obtain ⟨z1, z2, z3, z4, z5, z6⟩ := HT.out w3 hb3 b21 hb21 hk21 v' w4 hown' hgrow hat
      obtain ⟨g', cap', rfl⟩ := ownsRow_succ hown'
      have c1 := z1.cell
      have f1 := z1.frozen
      refine wp_store_piece (v := .slice Av O.length cv) (d := 5) (s := 22) rfl ((put_get (by decide)).trans e5) (put_here hs24) c1 f1 ?_
      obtain ⟨v5, y1, y2, _⟩ := z4
      rw [hz2] at z2
      gi_wp2
      exact ⟨z2, z3, ⟨v5, y1, y2⟩, z5, z6⟩
    · have b0 : decide (0 ≤ p.1.2.2) = false := decide_eq_false h
      rw [if_neg h, List.append_nil] at HA
      clear h
      gi_wp2
      exact ⟨KeepsFrom.refl _ _, KX.refl _ _, ⟨v, hv, by rw [List.map_append, List.map_cons, List.map_nil, HA.out]; exact ⟨hrow, trivial⟩⟩, hk, hB⟩
  case done =>
    rintro D ys W hD hS ⟨⟨v, hv, hrow, _⟩, hk, hB⟩ hK
    have hc := hv.cell
    rw [hS] at hrow
    gi_wp2
    refine ⟨by simp, .inl ⟨_, _, rfl, run_takeDeferred hK, ?_⟩⟩
    exact ⟨_, results_tmp rfl _ _ _, ⟨v, rfl, ownsRow_putObj hrow _ hK rfl⟩, hB.trans (belowK_b (w := w) (Nat.le_refl _) W D _ _ (by omega) hK rfl rfl)⟩
  case stop =>
    rintro D c pre W _ _ h _
    exact h.elim
end Go.Proofs.YtmngghglcgmkeaaGreatDoor
