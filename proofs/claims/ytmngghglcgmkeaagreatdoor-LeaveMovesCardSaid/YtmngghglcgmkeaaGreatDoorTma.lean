/- Merged from: Sp4 Tm1 Tm2 Tm3 Tm4. -/
import Derived.Test.YtmngghglcgmkeaaGreatDoorSpa
import Derived.Test.YtmngghglcgmkeaaGreatDoorShE
import Derived.Test.YtmngghglcgmkeaaGreatDoorCivs
import Derived.Test.YtmngghglcgmkeaaGreatDoorChks
namespace Go.Proofs.YtmngghglcgmkeaaGreatDoor
open Go.RowKit Go.Sort

def cfD (x y : Int) : Int := if x < y then -1 else if y < x then 1 else 0
theorem dd_isNaN (x : Int) (w : World) : Calls Tryz.prog 72 #[.int .i64 x] w fun e w' => e = .returned (.bool false) ∧ w' = w := by
  go_enter Tryz.func72, Tryz.ntmps72
  go_wp2
  go_ret
  exact ⟨rfl, rfl⟩
theorem dd_Compare (x y : Int) (w : World) : Calls Tryz.prog 43 #[.int .i64 x, .int .i64 y] w fun e w' => e = .returned (.int .i64 (cfD x y)) ∧ w' = w := by
  go_enter Tryz.func43, Tryz.ntmps43
  go_wp2_with fail
  refine (dd_isNaN x _).mono ?_
  rintro e w1 ⟨rfl, rfl⟩
  go_wp2_with fail
  refine (dd_isNaN y _).mono ?_
  rintro e w1 ⟨rfl, rfl⟩
  by_cases h : x < y
  · go_wp2
    go_ret
    exact ⟨ret_i (by unfold cfD; rw [if_pos (by omega)]), rfl⟩
  · by_cases h1 : y < x
    · go_wp2
      go_ret
      exact ⟨ret_i (by unfold cfD; rw [if_neg (by omega), if_pos (by omega)]), rfl⟩
    · go_wp2
      go_ret
      exact ⟨ret_i (by unfold cfD; rw [if_neg (by omega), if_neg (by omega)]), rfl⟩
theorem swo_cf : SWO (ltOf fun x y : Spn => cfD x.1 y.1) := by
  have e : ∀ x y : Spn, ltOf (fun x y : Spn => cfD x.1 y.1) x y = decide (x.1 < y.1) := fun x y => by
    unfold ltOf cfD
    by_cases h : x.1 < y.1
    · simp [h]
    · by_cases h2 : y.1 < x.1 <;> simp [h, h2]
  constructor
  · intro x; rw [e]; simp
  · intro x y z; rw [e, e, e]; simp; omega
  · intro x y z; rw [e, e, e]; simp; omega
theorem sorted_same {d d' : Array Spn} (hp : PermIn 0 d.size d d') (hs : SortedIn (ltOf fun x y : Spn => cfD x.1 y.1) 0 d.size d') (hd : d.toList.Pairwise (fun x y => x.1 < y.1)) : d' = d := by
  obtain ⟨hz, _, hperm⟩ := hp
  have e1 : d'.extract 0 d.size = d' := by rw [← hz]; exact Array.extract_size
  have e2 : d.extract 0 d.size = d := Array.extract_size
  rw [e1, e2] at hperm
  have h1 : d'.toList.Pairwise (fun x y => x.1 ≤ y.1) := by
    rw [List.pairwise_iff_getElem]
    intro i j hi hj hij
    have hi' : i < d'.size := by simpa using hi
    have hj' : j < d'.size := by simpa using hj
    have := hs i j (Nat.zero_le _) hij (by rw [← hz]; exact hj')
    rw [getElem!_pos d' i hi', getElem!_pos d' j hj'] at this
    unfold ltOf cfD at this
    simp only [Array.getElem_toList]
    by_cases h : d'[j].1 < d'[i].1
    · simp [h] at this
    · omega
  have h2 : d.toList.Pairwise (fun x y => x.1 ≤ y.1) := hd.imp fun h => by omega
  have key : ∀ a b : Spn, a ∈ d.toList → b ∈ d.toList → a.1 ≤ b.1 → b.1 ≤ a.1 → a = b := by
    intro a b ha hb h3 h4
    obtain ⟨i, hi, rfl⟩ := List.getElem_of_mem ha
    obtain ⟨j, hj, rfl⟩ := List.getElem_of_mem hb
    rcases Nat.lt_trichotomy i j with h | h | h
    · have := List.pairwise_iff_getElem.1 hd i j hi hj h; omega
    · subst h; rfl
    · have := List.pairwise_iff_getElem.1 hd j i hj hi h; omega
  have : d'.toList = d.toList := hperm.eq_of_pairwise (fun a b ha hb => key a b (hperm.mem_iff.1 ha) hb) h1 h2
  exact Array.ext' this
theorem holdsSp {g cap : Nat} {l : List Spn} {w : World} (hr : Rw encSp 2 28 g cap l w) : HoldsK encSp 2 w g 0 l.toArray := by
  intro j hj
  have hj2 : j < l.toArray.size * 2 := by simpa using hj
  have hj3 : j < l.length * 2 := by simpa using hj2
  have hd : j / 2 < l.length := by omega
  refine ⟨?_, by rw [Nat.zero_add]; exact hr.frozen _⟩
  rw [get_flatK _ _ _ _ hj2, Nat.zero_add]
  have hx : l[j / 2]? = some l[j / 2] := List.getElem?_eq_getElem hd
  have e : l.toArray[j / 2]! = l[j / 2] := by rw [getElem!_pos l.toArray _ (by simpa using hd)]; simp
  rw [e]
  have hm : j % 2 < 2 := Nat.mod_lt _ (by decide)
  have hu : (encSp l[j / 2])[j % 2]? = some (encSp l[j / 2])[j % 2]! := by
    rw [List.getElem?_eq_getElem (by rw [encSp_len]; exact hm), getElem!_pos (encSp l[j / 2]) (j % 2) (by rw [encSp_len]; exact hm)]
  have := hr.cell hx hu
  rwa [show j / 2 * 2 + j % 2 = j by omega] at this
/-- Spans, one behind the other. -/
def ofS (L : List Spn) : List Spn := L.foldl (fun O s => joinS O s.1 s.2) []
theorem ofS_take {L : List Spn} {k : Nat} {s : Spn} (h : L[k]? = some s) : ofS (L.take (k + 1)) = joinS (ofS (L.take k)) s.1 s.2 := by
  unfold ofS
  rw [List.take_add_one, h, List.foldl_append]
  rfl
theorem ofS_len : ∀ (L O : List Spn), (L.foldl (fun O s => joinS O s.1 s.2) O).length ≤ O.length + L.length
  | [], _ => by simp
  | s :: L, O => by
    rw [List.foldl_cons]
    have h1 := ofS_len L (joinS O s.1 s.2)
    have h2 := joinS_len O s.1 s.2
    rw [List.length_cons]; omega
end Go.Proofs.YtmngghglcgmkeaaGreatDoor

namespace Go.Proofs.YtmngghglcgmkeaaGreatDoor
open Go.RowKit Go.Sort

theorem ok_first : Cal.Ok 1900 1 1 := ⟨by decide, by decide, by decide, by decide, by decide, by decide⟩
theorem ok_last : Cal.Ok 2199 12 31 := ⟨by decide, by decide, by decide, by decide, by decide, by decide⟩
end Go.Proofs.YtmngghglcgmkeaaGreatDoor

namespace Go.Proofs.YtmngghglcgmkeaaGreatDoor
open Go.RowKit Go.Sort

theorem strK_rise (X : List Kn) : ∀ (C : List Int) (s : SS), C.Pairwise (· < ·) → (∀ d ∈ C, s.1 < d) → s.2.2.Pairwise (fun x y => x.1 < y.1) → (∀ p ∈ s.2.2, p.1 < s.1) →
    (C.foldl (strS X) s).2.2.Pairwise (fun x y => x.1 < y.1) ∧ ∀ p ∈ (C.foldl (strS X) s).2.2, p.1 < (C.foldl (strS X) s).1
  | [], s, _, _, h1, h2 => ⟨h1, h2⟩
  | d :: C, s, hp, hd, h1, h2 => by
    rw [List.foldl_cons]
    obtain ⟨hp1, hp2⟩ := List.pairwise_cons.1 hp
    have hsd := hd d (List.mem_cons_self ..)
    unfold strS
    split
    · exact strK_rise X C s hp2 (fun x hx => hd x (List.mem_cons_of_mem _ hx)) h1 h2
    · refine strK_rise X C _ hp2 hp1 ?_ ?_
      · rw [List.pairwise_append]
        refine ⟨h1, List.pairwise_singleton _ _, fun x hx y hy => ?_⟩
        rw [List.mem_singleton.1 hy]
        exact h2 x hx
      · intro p hp3
        rcases List.mem_append.1 hp3 with h | h
        · have := h2 p h; show p.1 < d; omega
        · rw [List.mem_singleton.1 h]; exact hsd
theorem mem_cuts {X : List Kn} {F T d : Int} (h : d ∈ cutsL X F T) : F < d ∧ d < T := by
  unfold cutsL at h
  rcases (mem_foldU d (endsL F T X) []).1 h with h | h
  · unfold endsL at h
    obtain ⟨x, _, hx⟩ := List.mem_flatMap.1 h
    have := (List.mem_filter.1 hx).2
    unfold selB at this
    simpa using this
  · cases h
theorem strL_rise (X : List Kn) (F T : Int) : (strL X F T).Pairwise (fun x y => x.1 < y.1) := by
  unfold strL
  split
  · exact .nil
  · have hr := strK_rise X (cutsL X F T) (F, plc X F X.length, []) (sorted_foldU _ _ .nil) (fun d hd => (mem_cuts hd).1) .nil (fun p hp => by cases hp)
    rw [List.pairwise_append]
    exact ⟨hr.1, List.pairwise_singleton _ _, fun x hx y hy => by rw [List.mem_singleton.1 hy]; exact hr.2 x hx⟩
/-- The spans of pieces with the number 1. -/
def onesP (l : List Pc) : List Spn := l.filterMap fun p => if p.2.2.2.1 = 1 then some (p.1, p.2.1) else none
theorem onesP_take {l : List Pc} {k : Nat} {p : Pc} (h : l[k]? = some p) : onesP (l.take (k + 1)) = onesP (l.take k) ++ (if p.2.2.2.1 = 1 then [(p.1, p.2.1)] else []) := by
  unfold onesP
  rw [List.take_add_one, h, List.filterMap_append]
  congr 1
  by_cases h0 : p.2.2.2.1 = 1 <;> simp [h0]
theorem onesP_len (l : List Pc) : (onesP l).length ≤ l.length := List.length_filterMap_le _ _
theorem ones_rise (X : List Kn) (F T : Int) : (onesP (overX X F T)).Pairwise (fun x y => x.1 < y.1) := by
  unfold onesP overX ovrS
  rw [List.filterMap_filterMap, List.pairwise_filterMap]
  refine (strL_rise X F T).imp fun {x y} h a ha b hb => ?_
  cases hx : (if 0 ≤ x.2.2 then some (x.1, x.2.1, valL X x.2.2) else none : Option Pc) with
  | none => rw [hx] at ha; cases ha
  | some u =>
    cases hy : (if 0 ≤ y.2.2 then some (y.1, y.2.1, valL X y.2.2) else none : Option Pc) with
    | none => rw [hy] at hb; cases hb
    | some v =>
      rw [hx] at ha
      rw [hy] at hb
      split at hx
      · cases hx
        split at hy
        · cases hy
          simp only [Option.bind_some] at ha hb
          split at ha
          · cases ha
            split at hb
            · cases hb
              exact h
            · cases hb
          · cases ha
        · cases hy
      · cases hx
theorem strL_len {X : List Kn} (F T : Int) (hX : X.length ≤ 4096) : (strL X F T).length ≤ 10001 := by
  unfold strL
  split
  · simp
  · have h1 := strK_len X F (cutsL X F T) (F, plc X F X.length, [])
    have h2 := foldU_len (endsL F T X) []
    have h3 := ends_len F T X
    unfold strK
    unfold cutsL at *
    simp only [List.length_append, List.length_nil, List.length_singleton] at *
    omega
/-- On which days a person is employed, by the facts. -/
def emplX (X : List Kn) (F T : Int) : List Spn := ofS (onesP (overX X (crossS F T (-25567) 84006).1 (crossS F T (-25567) 84006).2))
def spSl {α : Type} (enc : α → List Value) (k : Nat) (L : List α) : Sp := ⟨fun v w => ∃ A c, v = .slice A L.length c ∧ Sl enc k w w.heap.size A L, fun _ _ _ ⟨A, c, h1, h2⟩ hb => ⟨A, c, h1, sl_bel h2 hb⟩⟩
def spLine (X : List Kn) : Sp := ⟨fun v w => ∃ A c, v = .agg #[.slice A X.length c] ∧ SlK1 w A X, fun _ _ _ ⟨A, c, h1, h2⟩ hb => ⟨A, c, h1, sl_bel h2 hb⟩⟩
theorem li_Over (X : List Kn) (F T : Int) (A : Option Addr) (cap : Nat) (w : World) (hX : X.length ≤ 4096) (hs : SlK1 w A X) :
    Calls Tryz.prog 32 #[.agg #[.slice A X.length cap], .agg #[.int .i64 F, .int .i64 T]] w fun e w' => ∃ A' c', e = .returned (.slice A' (overX X F T).length c') ∧ Below w.heap.size w w' ∧ Sl encPc 5 w' w'.heap.size A' (overX X F T) :=
  (callsIn_wide.1 (li_Over_in X F T A cap w hX hs)).mono fun e w' ⟨⟨v, h1, h2⟩, h3⟩ => by
    obtain ⟨A', c', rfl, _, h4⟩ := own_sl encPc_len h2
    exact ⟨A', c', h1, h3, h4⟩
theorem spLine_of {B : Nat} {A : Option Addr} {c : Nat} {X : List Kn} {w : World} (h : OwnK B (.slice A X.length c) X w) : (spLine X).p (.agg #[.slice A X.length c]) w := by
  obtain ⟨A', c', e, _, h2⟩ := own_sl encK_len h
  injection e with e1 _ e3
  subst e1; subst e3
  exact ⟨_, _, rfl, h2⟩
end Go.Proofs.YtmngghglcgmkeaaGreatDoor

namespace Go.Proofs.YtmngghglcgmkeaaGreatDoor
open Go.RowKit Go.Sort

def firstS (E : List Spn) : Int × Bool := match E with
  | [] => (0, false)
  | s :: _ => (s.1, true)
def spSet (E : List Spn) : Sp := ⟨fun v w => ∃ A c, v = .agg #[.slice A E.length c] ∧ Sl encSp 2 w w.heap.size A E, fun _ _ _ ⟨A, c, h1, h2⟩ hb => ⟨A, c, h1, sl_bel h2 hb⟩⟩
end Go.Proofs.YtmngghglcgmkeaaGreatDoor

namespace Go.Proofs.YtmngghglcgmkeaaGreatDoor
open Go.RowKit Go.Sort

abbrev Wt := ByteArray × Int
def encWt (x : Wt) : List Value := [.string x.1, .int .i64 x.2]
theorem encWt_len (x : Wt) : (encWt x).length = 2 := rfl
theorem encWt_one (x : Wt) : ∀ u ∈ encWt x, u.oneCell' = true := by
  intro u hu
  simp [encWt] at hu
  rcases hu with rfl | rfl <;> rfl
/-- A number's digits, as the code sums them. -/
def costStep (n : Int) (b : UInt8) : Int := wrap64 (wrap64 (10 * n) + ((b.toNat : Int) - 48) % 256)
def costV (l : List UInt8) : Int := l.foldl costStep 0
def costP (l : List UInt8) : Wt := (⟨(cutB 58 l).1.toArray⟩, costV (cutB 58 l).2.1)
def costsL (l : List UInt8) : List Wt := (pieces 32 l).map costP
def costFa (s : ByteArray) : Fa := ⟨0, 1, 5, 0, 0, ⟨#[]⟩, 0, s⟩
theorem costV_take {p : List UInt8} {m : Nat} {b : UInt8} (h : p[m]? = some b) : costV (p.take (m + 1)) = costStep (costV (p.take m)) b := by
  unfold costV
  rw [List.take_add_one, h, List.foldl_append]
  rfl
theorem fit_cost {s : ByteArray} (hs : s.size ≤ 1000000) : Fit (costFa s) := ⟨(by decide : (0 : Int) ≤ 0 ∧ (0 : Int) ≤ 4294967295), (by decide : (0 : Int) ≤ 1 ∧ (1 : Int) ≤ 4294967295), (by decide : (-9223372036854775808 : Int) ≤ 5 ∧ (5 : Int) ≤ 9223372036854775807), (by decide : (-9223372036854775808 : Int) ≤ 0 ∧ (0 : Int) ≤ 9223372036854775807), (by decide : (-9223372036854775808 : Int) ≤ 0 ∧ (0 : Int) ≤ 9223372036854775807), (by decide : (-9223372036854775808 : Int) ≤ 0 ∧ (0 : Int) ≤ 9223372036854775807), (by decide : (⟨#[]⟩ : ByteArray).size ≤ 1000000), hs⟩
end Go.Proofs.YtmngghglcgmkeaaGreatDoor
