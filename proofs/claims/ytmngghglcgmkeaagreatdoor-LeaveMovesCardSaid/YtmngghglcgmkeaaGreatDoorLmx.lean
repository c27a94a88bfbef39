/- Merged from: Lma Lmb Lmc Lmd. -/
import Derived.Test.YtmngghglcgmkeaaGreatDoorAby
import Derived.Test.YtmngghglcgmkeaaGreatDoorSmx
import Derived.Test.YtmngghglcgmkeaaGreatDoorDks
import Derived.BigQuiet
import Derived.Test.YtmngghglcgmkeaaGreatDoorLvb
import Derived.Test.YtmngghglcgmkeaaGreatDoorRegs
namespace Go.Proofs.YtmngghglcgmkeaaGreatDoor
open Go.RowKit Go.Sort

inductive ChT : Int → List (Int × Int × Int) → Int → Prop
  | nil (F : Int) : ChT F [] F
  | cons {F b e j : Int} {P : List (Int × Int × Int)} : F < b → ChT b P e → ChT F ((F, b, j) :: P) e
theorem ChT.snoc {F e b j : Int} {P : List (Int × Int × Int)} (h : ChT F P e) (h1 : e < b) : ChT F (P ++ [(e, b, j)]) b := by
  induction h with
  | nil F => exact .cons h1 (.nil _)
  | cons g1 _ ih => exact .cons g1 (ih h1)
theorem ChT.le {F e : Int} {P : List (Int × Int × Int)} (h : ChT F P e) : F ≤ e := by
  induction h with
  | nil F => exact Int.le_refl _
  | cons g1 _ ih => omega
theorem strK_ch {X : List Kn} {F T : Int} : ∀ (C : List Int) {c : Int} {s : SS}, ChT F s.2.2 s.1 → s.1 ≤ c → C.Pairwise (· < ·) → (∀ d ∈ C, c < d ∧ d < T) → c < T → ChT F (C.foldl (strS X) s).2.2 (C.foldl (strS X) s).1 ∧ (C.foldl (strS X) s).1 < T
  | [], c, s, h, h1, _, _, hT => ⟨h, by show s.1 < T; omega⟩
  | d :: C, c, s, h, h1, hp, hm, hT => by
    rw [List.pairwise_cons] at hp
    have hd := hm d List.mem_cons_self
    rw [List.foldl_cons]
    have hC : ∀ y ∈ C, d < y ∧ y < T := fun y hy => ⟨hp.1 y hy, (hm y (List.mem_cons_of_mem _ hy)).2⟩
    unfold strS
    split
    · exact strK_ch C h (by omega) hp.2 hC hd.2
    · exact strK_ch C (s := (d, plc X d X.length, s.2.2 ++ [(s.1, d, s.2.1)])) (h.snoc (by omega)) (Int.le_refl _) hp.2 hC hd.2
theorem strL_ch {X : List Kn} {F T : Int} (h : F < T) : ChT F (strL X F T) T := by
  unfold strL strK
  rw [if_neg (by omega)]
  have hk := strK_ch (X := X) (F := F) (T := T) (cutsL X F T) (c := F) (s := (F, plc X F X.length, [])) (.nil F) (Int.le_refl _) (sorted_foldU _ _ .nil) (fun d hd => mem_cuts hd) h
  exact hk.1.snoc hk.2
/-- Absences that rise, none within another one. -/
def riseA (U : Int) : Int → List Ab → Prop
  | e, [] => e ≤ U
  | e, x :: l => e ≤ x.fr ∧ x.fr < x.to ∧ riseA U x.to l
theorem riseA.weak {U : Int} : ∀ {l : List Ab} {e f : Int}, riseA U e l → f ≤ e → riseA U f l
  | [], e, f, h, hf => by unfold riseA at h ⊢; omega
  | x :: l, e, f, h, hf => by
    unfold riseA at h ⊢
    exact ⟨by omega, h.2⟩
theorem ChT.rise {X : List Kn} {F U : Int} {P : List (Int × Int × Int)} (h : ChT F P U) : riseA U F ((P.filter fun p => decide (0 ≤ p.2.2)).map (abOf X)) := by
  induction h with
  | nil F => exact Int.le_refl _
  | @cons F b e j P h1 h2 ih =>
    rw [List.filter_cons]
    by_cases hj : 0 ≤ j
    · simp only [hj, decide_true, if_true, List.map_cons]
      exact ⟨Int.le_refl _, h1, ih⟩
    · simp only [hj, decide_false, Bool.false_eq_true, if_false]
      exact ih.weak (by omega)
theorem absX_rise (X : List Kn) {F U : Int} (h : F ≤ U) : riseA U F (absX X F U) := by
  by_cases hlt : F < U
  · exact (strL_ch hlt).rise
  · unfold absX strQ strL
    rw [if_pos (by omega)]
    exact h
theorem riseA.at_ {U : Int} : ∀ {l : List Ab} {e : Int} {i : Nat} {x : Ab}, riseA U e l → l[i]? = some x → e ≤ x.fr ∧ x.fr < x.to ∧ x.to ≤ U
  | [], _, _, _, _, h => by simp at h
  | y :: l, e, 0, x, h, hx => by
    simp at hx
    subst hx
    refine ⟨h.1, h.2.1, ?_⟩
    have hle : ∀ (l : List Ab) (e : Int), riseA U e l → e ≤ U := by
      intro l
      induction l with
      | nil => intro e h; exact h
      | cons z l ih => intro e h; have := ih _ h.2.2; have h1 := h.1; have h2 := h.2.1; omega
    exact hle _ _ h.2.2
  | y :: l, e, i + 1, x, h, hx => by
    have := riseA.at_ (i := i) h.2.2 (by simpa using hx)
    have h1 := h.1
    have h2 := h.2.1
    omega

/-- The minutes of a day, of any pattern. -/
def onP (h : Nat → Int) (D : List Int) (d : Int) : Int := if chkP h D = 0 then onR h D d else 0
abbrev Mvt := Mo.Mv
/-- The days of n days from a on, as moves, that g has. -/
def dayL (g : Int → Bool) (a : Int) : Nat → List Mvt
  | 0 => []
  | n + 1 => dayL g a n ++ (if g (a + n) = true then [(a + n, 0, 100)] else [])
theorem dayL_len (g : Int → Bool) (a : Int) : ∀ n, (dayL g a n).length ≤ n
  | 0 => Nat.le_refl _
  | n + 1 => by
    have := dayL_len g a n
    rw [dayL, List.length_append]
    split <;> simp <;> omega
def tkOne (g : Int → Bool) (x : Ab) : List Mvt := if x.ki = 1 then dayL g x.fr (x.to - x.fr).toNat else []
def tkM (g : Int → Bool) (Z : List Ab) : List Mvt := Z.flatMap (tkOne g)
theorem tkM_take {g : Int → Bool} {Z : List Ab} {i : Nat} {x : Ab} (h : Z[i]? = some x) : tkM g (Z.take (i + 1)) = tkM g (Z.take i) ++ tkOne g x := by
  unfold tkM
  rw [List.take_add_one, h, Option.toList_some, List.flatMap_append, List.flatMap_singleton]
theorem tkOne_len (g : Int → Bool) {x : Ab} (h : x.fr ≤ x.to) : ((tkOne g x).length : Int) ≤ x.to - x.fr := by
  unfold tkOne
  split
  · have := dayL_len g x.fr (x.to - x.fr).toNat
    omega
  · simp; omega
theorem tkM_len {g : Int → Bool} {U : Int} : ∀ {Z : List Ab} {e : Int}, riseA U e Z → ((tkM g Z).length : Int) ≤ U - e
  | [], e, h => by unfold riseA at h; simp [tkM]; omega
  | x :: Z, e, h => by
    obtain ⟨h1, h2, h3⟩ := h
    have ih := tkM_len (g := g) h3
    have hx := tkOne_len g (x := x) (by omega)
    unfold tkM at ih ⊢
    rw [List.flatMap_cons, List.length_append]
    omega
theorem tkM_part (g : Int → Bool) (Z : List Ab) (i : Nat) : (tkM g (Z.take i)).length ≤ (tkM g Z).length := by
  have h := List.take_append_drop i Z
  have e : tkM g Z = tkM g (Z.take i) ++ tkM g (Z.drop i) := by
    unfold tkM
    rw [← List.flatMap_append, h]
  rw [e, List.length_append]
  omega
theorem part_len {g : Int → Bool} {Z : List Ab} {i j : Nat} {x : Ab} {U e : Int} (hr : riseA U e Z) (h : Z[i]? = some x) (hj : (j : Int) ≤ x.to - x.fr) : ((tkM g (Z.take i) ++ dayL g x.fr j).length : Int) ≤ U - e := by
  have h1 : ∀ {Z : List Ab} {i : Nat} {e : Int}, riseA U e Z → Z[i]? = some x → ((tkM g (Z.take i)).length : Int) ≤ x.fr - e := by
    intro Z
    induction Z with
    | nil => intro i e _ hx; simp at hx
    | cons z Z ih =>
      intro i e hr hx
      cases i with
      | zero =>
        simp at hx
        subst hx
        have := hr.1
        simp [tkM]
        omega
      | succ i =>
        have h2 := ih hr.2.2 (by simpa using hx)
        have hz := tkOne_len g (x := z) (by have := hr.2.1; omega)
        have := hr.1
        unfold tkM at h2 ⊢
        rw [List.take_succ_cons, List.flatMap_cons, List.length_append]
        omega
  have h2 := h1 hr h
  have h3 := dayL_len g x.fr j
  have h4 := riseA.at_ hr h
  rw [List.length_append]
  omega
/-- The grants up to a day. -/
def grM (un : Int) (G : List Kn) : List Mvt := G.filterMap fun x => if x.2.fr ≤ un then some (x.2.fr, x.2.nu, 0) else none
theorem grM_take {un : Int} {G : List Kn} {i : Nat} {x : Kn} (h : G[i]? = some x) : grM un (G.take (i + 1)) = grM un (G.take i) ++ (if x.2.fr ≤ un then [(x.2.fr, x.2.nu, 0)] else []) := by
  unfold grM
  rw [List.take_add_one, h, Option.toList_some, List.filterMap_append]
  congr 1
  by_cases hx : x.2.fr ≤ un <;> simp [hx]
theorem grM_len (un : Int) (G : List Kn) : (grM un G).length ≤ G.length := List.length_filterMap_le _ _
theorem grM_part (un : Int) (G : List Kn) (i : Nat) : (grM un (G.take i)).length ≤ G.length := by
  refine Nat.le_trans (grM_len _ _) ?_
  rw [List.length_take]
  exact Nat.min_le_right _ _
/-- The facts of grants in force. -/
def gK (T : List Fa) (pe : Int) : List Kn := chosen (ofPK pe 17) T T.length
theorem cross_day {a un : Int} (h1 : -25567 ≤ a) : crossS a (a + 1) (-25567) (un + 1) = (a, a + 1) ↔ a ≤ un := by
  unfold crossS
  have e1 : max a (-25567) = a := by omega
  rw [e1]
  by_cases h : a ≤ un
  · have e2 : min (a + 1) (un + 1) = a + 1 := by omega
    rw [e2, if_neg (by omega)]
    exact ⟨fun _ => h, fun _ => rfl⟩
  · have e2 : min (a + 1) (un + 1) = un + 1 := by omega
    rw [e2, if_pos (by omega)]
    exact ⟨fun e => by injection e with e1 e2; omega, fun e => absurd e h⟩
/-- All moves, grants first. -/
def allM (T : List Fa) (pe : Int) (h : Nat → Int) (D : List Int) (un : Int) : List Mvt := grM un (gK T pe) ++ tkM (fun d => decide (0 < onP h D d)) (absX (kA T pe) (-25567) (un + 1))
def calU (un : Int) : Bool := decide (-25567 ≤ un) && decide (un ≤ 84005)
/-- What is wrong with the asking. -/
def movE (T : List Fa) (pe : Int) (h : Nat → Int) (D : List Int) (un : Int) : Int := if calU un = false then 15 else if chkP h D ≠ 0 then chkP h D else if 4096 < (allM T pe h D un).length then 5 else 0
def movL (T : List Fa) (pe : Int) (h : Nat → Int) (D : List Int) (un : Int) : List Mvt := if movE T pe h D un = 0 then ss Mo.lt (allM T pe h D un) else []
/-- A sequence up to one more than the most. -/
def cap4 (S : List Mvt) : List Mvt := S.take 4097
theorem cap4_small {S : List Mvt} (h : S.length ≤ 4097) : cap4 S = S := List.take_of_length_le h
theorem cap4_snoc {S : List Mvt} {x : Mvt} (h : (cap4 S).length ≤ 4096) : cap4 (S ++ [x]) = cap4 S ++ [x] := by
  unfold cap4 at h ⊢
  rw [List.length_take] at h
  have hl : S.length ≤ 4096 := by omega
  rw [List.take_of_length_le (by omega : S.length ≤ 4097), List.take_of_length_le (by simp; omega)]
theorem cap4_full {S M : List Mvt} (h : 4096 < (cap4 S).length) : cap4 (S ++ M) = cap4 S := by
  unfold cap4 at h ⊢
  rw [List.length_take] at h
  rw [List.take_append_of_le_length (by omega)]
theorem cap4_len (S : List Mvt) : (cap4 S).length ≤ 4097 ∧ (4096 < (cap4 S).length ↔ 4096 < S.length) := by
  unfold cap4
  rw [List.length_take]
  omega
/-- A move goes behind all that are not above it. -/
theorem add_ss {S L1 L2 : List Mvt} {x : Mvt} (hL : L1 ++ L2 = ss Mo.lt S) (h2 : ∀ y ∈ L2, x.1 < y.1) (h1 : L1 = [] ∨ ∃ L z, L1 = L ++ [z] ∧ z.1 ≤ x.1) : L1 ++ x :: L2 = ss Mo.lt (S ++ [x]) :=
  Mo.ins_done hL (fun y hy => by unfold Mo.lt; exact decide_eq_true (h2 y hy)) (h1.imp id fun ⟨L, z, e, hz⟩ => ⟨L, z, e, by unfold Mo.lt; exact decide_eq_false (by omega)⟩)
theorem mem_chosenL {p : Fa → Bool} {L : List Fa} {k : Nat} {x : Kn} (h : x ∈ chosen p L k) : x.2 ∈ L ∧ p x.2 = true := by
  unfold chosen at h
  rw [List.mem_filterMap] at h
  obtain ⟨i, _, h⟩ := h
  cases hf : L[i]? with
  | none => rw [hf] at h; cases h
  | some f =>
    rw [hf] at h
    simp only at h
    split at h
    · cases h
    · split at h
      · rename_i hp
        injection h with h
        subst h
        exact ⟨List.mem_of_getElem? hf, hp⟩
      · cases h
theorem chk_fromL {f : Fa} (h : chkF f = 0) : -25567 ≤ f.fr ∧ f.fr ≤ 84005 := by
  unfold chkF at h
  split at h
  · cases h
  · split at h
    · cases h
    · split at h
      · rename_i hd; exact absurd h hd
      · rename_i hd
        have hd2 : daysE f = 0 := Decidable.byContradiction hd
        unfold daysE at hd2
        split at hd2
        · cases hd2
        · omega
end Go.Proofs.YtmngghglcgmkeaaGreatDoor

namespace Go.Proofs.YtmngghglcgmkeaaGreatDoor
open Go.RowKit Go.Sort

abbrev OwnMo (B : Nat) (v : Value) (l : List Mvt) (w : World) : Prop := Own Mo.encM 3 70 B v l w
theorem encMo_one (x : Mvt) : ∀ u ∈ Mo.encM x, u.oneCell' = true := by
  intro u hu
  simp only [Mo.encM, List.mem_cons, List.not_mem_nil, or_false] at hu
  rcases hu with rfl | rfl | rfl <;> rfl
theorem moInfo : (Tryz.prog.info? 70).map (fun i => (i.zero, i.size, i.bytes)) = some (some (.agg #[.int .i64 0, .int .i64 0, .int .i64 0]), 3, 24) := by kernel_rfl
theorem own_lowerM {α : Type} {enc : α → List Value} {k : Nat} {e : TypeId} {B B' : Nat} {w : World} {v : Value} {l : List α} (h : Own enc k e B v l w) (hB : B' ≤ B) : Own enc k e B' v l w := by
  rcases h with ⟨h0, h⟩
  refine ⟨h0, ?_⟩
  rcases h with h | ⟨g, cap, cur, h1, h2, h3⟩
  · exact .inl h
  · exact .inr ⟨g, cap, cur, h1, Nat.le_trans hB h2, h3⟩
/-- What add answers: a row of one's own. -/
def AddR (L : List Mvt) (w : World) (e : Ending) (w' : World) : Prop := (∃ v, e = .returned v ∧ OwnMo w.heap.size v L w') ∧ Below w.heap.size w w'
theorem AddR.of {L M : List Mvt} {w w' : World} {e : Ending} {v : Value} (hL : M = L) (he : e = .returned v) (ho : OwnMo w.heap.size v M w') (hb : Below w.heap.size w w') : AddR L w e w' := by
  subst hL
  exact ⟨⟨v, he, ho⟩, hb⟩
theorem below_ownM {B : Nat} {w0 w w' : World} {v : Value} {l : List Mvt} (h : Below B w0 w) (hB : B ≤ w.heap.size) (ho : OwnMo B v l w) (hg : w.grownBy w' v.ownBlock) : Below B w0 w' :=
  bel_own h hB ho hg
theorem newsMo (x : Mvt) (w : World) : ∀ j u, (Mo.encM x)[j]? = some u → (w.alloc (.cells #[.int .i64 x.1, .int .i64 x.2.1, .int .i64 x.2.2] 70)).cell? ⟨w.heap.size, j, none⟩ = some u := fun j u hu => by
  rw [(Bk.new w _ _).cell j]
  simpa [Mo.encM] using hu
set_option maxHeartbeats 4000000 in
set_option maxRecDepth 100000 in
theorem la_add (S : List Mvt) (B : Nat) (v : Value) (x : Mvt) (w : World) (hn : S.length ≤ 100000) (ho : OwnMo B v (ss Mo.lt S) w) :
    Calls Tryz.prog 21 #[v, .agg #[.int .i64 x.1, .int .i64 x.2.1, .int .i64 x.2.2]] w (AddR (ss Mo.lt (S ++ [x])) w) := by
  obtain ⟨x0, x1, x2⟩ := x
  simp only
  obtain ⟨L, hLS⟩ : ∃ L, ss Mo.lt S = L := ⟨_, rfl⟩
  have hLn : L.length ≤ 100000 := by rw [← hLS, ss_length]; exact hn
  rw [hLS] at ho
  have HLS := Lib.hid hLS
  obtain ⟨mb, hmb⟩ : ∃ z, w.heap.size = z := ⟨_, rfl⟩
  obtain ⟨w2, hw2⟩ : ∃ z, w.alloc (.cells #[.int .i64 x0, .int .i64 x1, .int .i64 x2] 70) = z := ⟨_, rfl⟩
  have hb2 : Below w.heap.size w w2 := by rw [← hw2]; exact bAlloc _ _
  have HB2 := Lib.hid hb2
  have HK2 : Hid (Bk mb 70 #[.int .i64 x0, .int .i64 x1, .int .i64 x2] w2) := Lib.hid (by rw [← hw2, ← hmb]; exact Bk.new _ _ _)
  have HO2 : Hid (OwnMo B v L w2) := Lib.hid (own_bel ho hb2)
  have HE := Lib.hid (And.intro hmb hw2)
  have HMB : Hid (w.heap.size ≤ mb) := Lib.hid (Nat.le_of_eq hmb)
  have HON : Hid (∀ L1 L2 (v : Value) (w' : World) (e : Ending), L1 ++ L2 = L → (∀ y ∈ L2, x0 < y.1) → (L1 = [] ∨ ∃ P z, L1 = P ++ [z] ∧ z.1 ≤ x0) → e = .returned v → OwnMo w.heap.size v (L1 ++ [(x0, x1, x2)] ++ L2) w' → Below w.heap.size w w' → AddR (ss Mo.lt (S ++ [(x0, x1, x2)])) w e w') := Lib.hid fun L1 L2 v w' e h1 h2 h3 he ho hb => AddR.of (by rw [List.append_assoc]; exact add_ss (h1.trans HLS.out.symm) h2 h3) he ho hb
  have hlv : ∃ c, (v = .slice none 0 0 ∧ L = [] ∧ c = 0) ∨ ∃ g, v = .slice (some ⟨g, 0, none⟩) L.length c ∧ L.length ≤ c ∧ ∀ W, Below w2.heap.size w2 W → ∀ i y, L[i]? = some y → ∀ j u, (Mo.encM y)[j]? = some u → W.cell? ⟨g, i * 3 + j, none⟩ = some u := by
    rcases HO2.out.2 with ⟨hv, h0⟩ | ⟨g, cap, cur, hv, hBg, hg, hcs, hcl, hfz, htk⟩
    · exact ⟨0, .inl ⟨hv, List.length_eq_zero_iff.1 h0, rfl⟩⟩
    · refine ⟨cap, .inr ⟨g, hv, hcs, fun W hW i y hy j u hu => ?_⟩⟩
      obtain ⟨A', c', e1, _, h1⟩ := own_sl Mo.encM_len HO2.out
      obtain ⟨g', o', e2, _, h2⟩ := h1 (by intro h; rw [h] at hy; simp at hy)
      rw [hv] at e1
      injection e1 with e1 _ _
      rw [← e1] at e2
      injection e2 with e2
      injection e2 with e2 e3 _
      have h3 := bCell hW (h2 i y hy j u hu)
      rw [← e2, ← e3, Nat.zero_add] at h3
      exact h3
  obtain ⟨c, hlv⟩ := hlv
  obtain ⟨A, hAv⟩ : ∃ A, v = .slice A L.length c ∧ (A = none → L = [] ∧ c = 0) ∧ (∀ g o r, A = some ⟨g, o, r⟩ → o = 0 ∧ r = none ∧ L.length ≤ c ∧ ∀ W, Below w2.heap.size w2 W → ∀ i y, L[i]? = some y → ∀ j u, (Mo.encM y)[j]? = some u → W.cell? ⟨g, i * 3 + j, none⟩ = some u) := by
    rcases hlv with ⟨rfl, rfl, rfl⟩ | ⟨g, rfl, h1, h2⟩
    · exact ⟨none, rfl, (fun _ => ⟨rfl, rfl⟩), (fun g o r h => by cases h)⟩
    · exact ⟨some ⟨g, 0, none⟩, rfl, (fun h => by cases h), (fun g' o r h => by injection h with h; injection h with ha hb hc; subst ha; subst hb; subst hc; exact ⟨rfl, rfl, h1, h2⟩)⟩
  obtain ⟨rfl, hA0, hAs⟩ := hAv
  have HA0 := Lib.hid hA0
  have HAS := Lib.hid hAs
  have hLc : L.length ≤ c := by
    cases A with
    | none => rw [(hA0 rfl).1]; exact Nat.zero_le _
    | some p => obtain ⟨g, o, r⟩ := p; exact (hAs g o r rfl).2.2.1
  clear hlv hA0 hAs hLS hb2 hw2 hmb ho
  go_enter Tryz.func21, Tryz.ntmps21
  go_upto_region 1 with fail
  rw [HE.out.1, HE.out.2]
  clear HE
  go_wp2
  go_loopw [5] (fun nv wr => ∃ n : Nat, n ≤ L.length ∧ nv = .int .i64 n ∧ Hid (∀ y ∈ L.drop n, x0 < y.1) ∧ Hid (Below w2.heap.size w2 wr)) (fun nv _ => (intOf nv).toNat)
  case atStart => exact ⟨L.length, Nat.le_refl _, rfl, Lib.hid (by rw [List.drop_length]; intro y hy; cases hy), Lib.hid (Below.refl _ _)⟩
  case round =>
    obtain ⟨n, hn2, rfl, HD, HB⟩ := hrel
    obtain ⟨wo, hwo⟩ : ∃ x : World, x = wr := ⟨_, rfl⟩
    subst hwo
    obtain ⟨gb, HGB⟩ : ∃ gb : Bool, Hid ((gb = true → 0 < n ∧ ∀ y, L[n - 1]? = some y → x0 < y.1) ∧ (gb = false → n = 0 ∨ ∃ y, L[n - 1]? = some y ∧ y.1 ≤ x0)) := by
      rcases Nat.eq_zero_or_pos n with h0 | h0
      · exact ⟨false, Lib.hid ⟨fun h => (by cases h), fun _ => .inl h0⟩⟩
      · obtain ⟨y, hy⟩ : ∃ y, L[n - 1]? = some y := ⟨_, List.getElem?_eq_getElem (by omega)⟩
        refine ⟨decide (x0 < y.1), Lib.hid ⟨fun h => ⟨h0, fun z hz => ?_⟩, fun h => .inr ⟨y, hy, ?_⟩⟩⟩
        · rw [hy] at hz; injection hz with hz; subst hz; exact of_decide_eq_true h
        · have := of_decide_eq_false h; omega
    go_upto_region 2 with fail
    go_cut [21] from 9 to 21 (fun vb wx => vb = .bool gb ∧ Hid (Below w2.heap.size w2 wx))
    case first =>
      rcases Nat.eq_zero_or_pos n with ha0 | ha0
      · have b0 : decide ((n : Int) > 0) = false := decide_eq_false (by omega)
        have b1 : decide ((0 : Int) < (n : Int)) = false := decide_eq_false (by omega)
        have HT : Hid (gb = false) := Lib.hid (by cases gb with | false => rfl | true => exact absurd (HGB.out.1 rfl).1 (by omega))
        clear hn2
        go_quiet (fail)
        rename_i nq
        go_wp2_with fail
        go_meet
        exact ⟨by rw [HT.out], Lib.hid (HB.out.trans ((bDrewN wo nq).mono HB.out.size))⟩
      · have b0 : decide ((n : Int) > 0) = true := decide_eq_true (by omega)
        have b1 : decide ((0 : Int) < (n : Int)) = true := decide_eq_true (by omega)
        obtain ⟨⟨y0, y1, y2⟩, hy⟩ : ∃ y, L[n - 1]? = some y := ⟨_, List.getElem?_eq_getElem (by omega)⟩
        cases A with
        | none => exact absurd (HA0.out rfl).1 (by intro h; rw [h] at hy; simp at hy)
        | some p =>
          obtain ⟨g, o, r⟩ := p
          obtain ⟨rfl, rfl, _, hcl⟩ := HAS.out g o r rfl
          have c1 : wo.cell? ⟨g, (n - 1) * 3, none⟩ = some (.int .i64 y0) := hcl wo HB.out (n - 1) _ hy 0 _ rfl
          have c2 : wo.cell? ⟨mb, 0, none⟩ = some (.int .i64 x0) := bCell HB.out (HK2.out.cell 0)
          have v1 : IntKind.i64.wrap ((n : Int) - 1) = (n : Int) - 1 := IntWalk.i64_in _ (by omega)
          have v2 : ((n : Int) - 1).toNat = n - 1 := by omega
          have w3 : (0 : Int) ≤ (n : Int) - 1 := by omega
          have w4 : (n : Int) - 1 < (L.length : Int) := by omega
          obtain ⟨z, hz⟩ : ∃ z, decide (x0 < y0) = z := ⟨_, rfl⟩
          have HT : Hid (gb = z) := Lib.hid (by
            cases gb with
            | true => rw [← hz]; exact (decide_eq_true ((HGB.out.1 rfl).2 _ hy)).symm
            | false =>
              rcases HGB.out.2 rfl with h | ⟨y, h1, h2⟩
              · omega
              · rw [hy] at h1; injection h1 with h1; subst h1; rw [← hz]; exact (decide_eq_false (by omega)).symm)
          clear hy hcl HGB
          go_quiet (fail)
          rename_i nq
          go_wp2_with fail
          go_meet
          exact ⟨by rw [HT.out], Lib.hid (HB.out.trans ((bDrewN wo nq).mono HB.out.size))⟩
    case rest =>
    obtain ⟨rfl, HB3⟩ := hcut
    obtain ⟨w3, rfl⟩ : ∃ x : World, x = wc := ⟨_, rfl⟩
    clear HB
    cases gb with
    | true =>
      have hg := HGB.out.1 rfl
      have v1 : IntKind.i64.wrap ((n : Int) - 1) = (n : Int) - 1 := IntWalk.i64_in _ (by omega)
      have HD2 : Hid (∀ y ∈ L.drop (n - 1), x0 < y.1) := Lib.hid (by
        intro y hy
        obtain ⟨z, hz⟩ : ∃ z, L[n - 1]? = some z := ⟨_, List.getElem?_eq_getElem (by omega)⟩
        have h1 : L.drop (n - 1) = z :: L.drop n := by
          rw [List.drop_eq_getElem_cons (by omega)]
          congr 1
          · have := List.getElem?_eq_getElem (l := L) (i := n - 1) (by omega)
            rw [this] at hz; injection hz
          · congr 1; omega
        rw [h1] at hy
        rcases List.mem_cons.1 hy with rfl | hy
        · exact hg.2 _ hz
        · exact HD.out y hy)
      have HN := Lib.hid hg.1
      clear HD HGB hg
      go_wp2
      exact ⟨⟨n - 1, by omega, by have := HN.out; congr 1; omega, HD2, HB3⟩, by have := HN.out; simp [intOf]; omega⟩
    | false =>
      have HLO : Hid (L.take n = [] ∨ ∃ P z, L.take n = P ++ [z] ∧ z.1 ≤ x0) := Lib.hid (by
        rcases HGB.out.2 rfl with h | ⟨y, hy, h2⟩
        · left; rw [h]; rfl
        · right
          have hp : 0 < n := by
            rcases Nat.eq_zero_or_pos n with h | h
            · subst h
              exact absurd hn2 (by
                intro _
                skip
                have := HD.out y (by rw [List.drop_zero]; exact List.mem_of_getElem? hy)
                omega)
            · exact h
          refine ⟨L.take (n - 1), y, ?_, h2⟩
          have e : n = n - 1 + 1 := by omega
          rw [e, List.take_add_one, hy, Nat.add_sub_cancel]
          rfl)
      clear HGB
      obtain ⟨eb, heb⟩ : ∃ z, w3.heap.size = z := ⟨_, rfl⟩
      obtain ⟨w4, hw4⟩ : ∃ z, w3.alloc (.cells #[] 70) = z := ⟨_, rfl⟩
      have hb34 : Below w3.heap.size w3 w4 := by rw [← hw4]; exact bAlloc _ _
      have HZ4 : Hid (OwnMo w3.heap.size (.slice (some ⟨eb, 0, none⟩) 0 0) [] w4) := Lib.hid (by rw [← hw4, ← heb]; exact own_empty (Bk.new w3 _ #[]) (Nat.le_refl _))
      have HB34 := Lib.hid hb34
      have HE := Lib.hid (And.intro heb hw4)
      have hnc : n ≤ c := by omega
      have hTn : (L.take n).length = n := by rw [List.length_take, Nat.min_eq_left hn2]
      have hDn : (L.drop n).length = L.length - n := List.length_drop
      have HLT := Lib.hid hTn
      have HLD := Lib.hid hDn
      have HSP : Hid (L.take n ++ L.drop n = L) := Lib.hid (List.take_append_drop n L)
      have HBW3 : Hid (Below w.heap.size w w3) := Lib.hid (bTrans HB2.out HB3.out)
      have HX3 : Hid (∀ W, Below w3.heap.size w3 W → W.cell? ⟨mb, 0, none⟩ = some (.int .i64 x0) ∧ W.cell? ⟨mb, 1, none⟩ = some (.int .i64 x1) ∧ W.cell? ⟨mb, 2, none⟩ = some (.int .i64 x2)) := Lib.hid fun W hW => ⟨bCell (bTrans HB3.out hW) (HK2.out.cell 0), bCell (bTrans HB3.out hW) (HK2.out.cell 1), bCell (bTrans HB3.out hW) (HK2.out.cell 2)⟩
      clear heb hw4 hb34 hTn hDn
      cases A with
      | none =>
        obtain ⟨rfl, rfl⟩ := HA0.out rfl
        obtain rfl : n = 0 := by simpa using hn2
        go_upto_region 4 with fail
        go_wp2_with ((at_builtin; rw [HE.out.1, HE.out.2]; refine wpList_append_rows Mo.encM_len encMo_one rfl _ _ 59 rfl w3.heap.size 0 70 _ 24 Tryz.underlying59 moInfo rfl (by decide) (.slice (some ⟨eb, 0, none⟩) 0 0) (.slice none 0 0) [] [] rfl HZ4.out rfl (Own.nil _) (by simp) (by decide) HB34.out.size ?_))
        intro v5 w5 ho5 hg5
        have HB5 : Hid (Below w3.heap.size w3 w5) := Lib.hid (below_ownM HB34.out HB34.out.size HZ4.out hg5)
        have HO5 := Lib.hid ho5
        clear ho5 hg5 HZ4 HE HB34
        obtain ⟨K0, K1, K2⟩ := HX3.out _ HB5.out
        have HS5 : Hid (w3.heap.size ≤ w5.heap.size) := Lib.hid HB5.out.size
        have HNW := Lib.hid (newsMo (x0, x1, x2) w5)
        go_wp2_with ((at_builtin; refine wpList_append_row Mo.encM_len encMo_one rfl _ _ 59 rfl w3.heap.size 70 _ 24 Tryz.underlying59 moInfo rfl (by decide) v5 [] (x0, x1, x2) rfl (HO5.out.alloc _) w5.heap.size 1 rfl HNW.out (by simp) (by decide) (Nat.le_trans HS5.out (Grows.of_alloc w5 _).size) ?_))
        intro v6 w6 ho6 hg6
        have HB6 : Hid (Below w3.heap.size w3 w6) := Lib.hid (below_ownM (bTrans HB5.out (bAlloc w5 _)) (Nat.le_trans HS5.out (Grows.of_alloc w5 _).size) (HO5.out.alloc _) hg6)
        have HO6 := Lib.hid ho6
        clear ho6 hg6 HO5 HNW K0 K1 K2 HB5 HS5
        go_wp2_with ((at_builtin; refine wpList_append_rows Mo.encM_len encMo_one rfl _ _ 59 rfl w3.heap.size 0 70 _ 24 Tryz.underlying59 moInfo rfl (by decide) v6 (.slice none 0 0) ([] ++ [(x0, x1, x2)]) [] rfl HO6.out rfl (Own.nil _) (by simp) (by decide) HB6.out.size ?_))
        intro v7 w7 ho7 hg7
        have HB7 : Hid (Below w.heap.size w w7) := Lib.hid (bTrans HBW3.out (below_ownM HB6.out HB6.out.size HO6.out hg7))
        have HO7 := Lib.hid (own_lowerM ho7 HBW3.out.size)
        clear ho7 hg7 HO6 HB6
        go_wp2
        go_ret
        exact HON.out _ _ v7 w7 _ HSP.out HD.out HLO.out rfl (by have h := HO7.out; first | exact h | simpa using h) HB7.out
      | some p =>
        obtain ⟨g, o, r⟩ := p
        obtain ⟨rfl, rfl, _, hcl⟩ := HAS.out g o r rfl
        have HCL := Lib.hid hcl
        have HN1 : Hid (∀ j u, (rowOf Mo.encM (L.take n))[j]? = some u → w4.cell? ⟨g, 0 + j, none⟩ = some u) := Lib.hid (Sl.newsN Mo.encM_len fun i x hx j u hu => by
          have hi : i < n := by
            have := (List.getElem?_eq_some_iff.1 hx).1
            rw [HLT.out] at this
            exact this
          rw [List.getElem?_take_of_lt hi] at hx
          rw [Nat.zero_add]
          exact HCL.out w4 (bTrans HB3.out HB34.out) i x hx j u hu)
        have HN2 : Hid (∀ W, Below w3.heap.size w3 W → ∀ j u, (rowOf Mo.encM (L.drop n))[j]? = some u → W.cell? ⟨g, n * 3 + j, none⟩ = some u) := Lib.hid fun W hW => Sl.newsN Mo.encM_len fun i x hx j u hu => by
          rw [List.getElem?_drop] at hx
          have h := HCL.out W (bTrans HB3.out hW) (n + i) x hx j u hu
          rw [Nat.add_mul] at h
          exact h
        clear hcl HCL
        go_upto_region 4 with fail
        go_wp2_with ((at_builtin; rw [HE.out.1, HE.out.2]; refine wpList_append_rowsN Mo.encM_len encMo_one rfl _ _ 59 rfl w3.heap.size 70 _ 24 Tryz.underlying59 moInfo rfl (by decide) (.slice (some ⟨eb, 0, none⟩) 0 0) [] (L.take n) rfl HZ4.out g 0 n c rfl HLT.out HN1.out (by simp; omega) (by decide) HB34.out.size ?_))
        intro v5 w5 ho5 hg5
        have HB5 : Hid (Below w3.heap.size w3 w5) := Lib.hid (below_ownM HB34.out HB34.out.size HZ4.out hg5)
        have HO5 : Hid (OwnMo w3.heap.size v5 (L.take n) w5) := Lib.hid ho5
        clear ho5 hg5 HZ4 HE HB34 HN1
        have hPl : (L.take n).length + 1 ≤ 1000000000 := by rw [HLT.out]; omega
        obtain ⟨P, hP⟩ : ∃ P, L.take n = P := ⟨_, rfl⟩
        rw [hP] at HO5 HSP HLO hPl
        have hPn : P.length ≤ L.length := by rw [← hP, HLT.out]; exact hn2
        clear hP
        obtain ⟨K0, K1, K2⟩ := HX3.out _ HB5.out
        have HS5 : Hid (w3.heap.size ≤ w5.heap.size) := Lib.hid HB5.out.size
        have HNW := Lib.hid (newsMo (x0, x1, x2) w5)
        go_wp2_with ((at_builtin; refine wpList_append_row Mo.encM_len encMo_one rfl _ _ 59 rfl w3.heap.size 70 _ 24 Tryz.underlying59 moInfo rfl (by decide) v5 P (x0, x1, x2) rfl (HO5.out.alloc _) w5.heap.size 1 rfl HNW.out (hPl) (by decide) (Nat.le_trans HS5.out (Grows.of_alloc w5 _).size) ?_))
        intro v6 w6 ho6 hg6
        have HB6 : Hid (Below w3.heap.size w3 w6) := Lib.hid (below_ownM (bTrans HB5.out (bAlloc w5 _)) (Nat.le_trans HS5.out (Grows.of_alloc w5 _).size) (HO5.out.alloc _) hg6)
        have HO6 := Lib.hid ho6
        clear ho6 hg6 HO5 HNW K0 K1 K2 HB5 HS5
        by_cases hc0 : c = n
        · have HQ0 : Hid (L.drop n = []) := Lib.hid (List.drop_eq_nil_of_le (by omega))
          have hz : L.length - n = 0 := by omega
          rw [HQ0.out] at HSP HD HN2
          obtain ⟨g6, c6, e6, _, _⟩ := Own.row Mo.encM_len HO6.out (by simp)
          subst e6
          have HB7 : Hid (Below w.heap.size w w6) := Lib.hid (bTrans HBW3.out HB6.out)
          have HO7 := Lib.hid (own_lowerM HO6.out HBW3.out.size)
          have hlq : (P ++ [(x0, x1, x2)]).length ≤ c6 := by
            obtain ⟨A', c', e1, h1, _⟩ := own_sl Mo.encM_len HO6.out
            injection e1 with _ _ e1
            omega
          obtain ⟨q6, hq6⟩ : ∃ q, (P ++ [(x0, x1, x2)]).length = q := ⟨_, rfl⟩
          rw [hq6] at HO7 HO6 hlq
          rw [hq6]
          clear HN2 HLD HQ0 hq6 HO6 HB6
          go_wp2
          go_ret
          exact HON.out _ _ _ w6 _ HSP.out HD.out HLO.out rfl (by rw [List.append_nil]; exact HO7.out) HB7.out
        · obtain ⟨Q, hQ⟩ : ∃ Q, L.drop n = Q := ⟨_, rfl⟩
          have HN6 := Lib.hid (HN2.out w6 HB6.out)
          rw [hQ] at HSP HD HN6 HLD
          have hPl2 : (P ++ [(x0, x1, x2)]).length + (L.length - n) ≤ 1000000000 := by rw [List.length_append]; simp; omega
          clear hQ HN2
          go_wp2_with ((at_builtin; refine wpList_append_rowsN Mo.encM_len encMo_one rfl _ _ 59 rfl w3.heap.size 70 _ 24 Tryz.underlying59 moInfo rfl (by decide) v6 (P ++ [(x0, x1, x2)]) Q rfl HO6.out g (n * 3) (L.length - n) (c - n) rfl HLD.out HN6.out hPl2 (by decide) HB6.out.size ?_))
          intro v7 w7 ho7 hg7
          have HB7 : Hid (Below w.heap.size w w7) := Lib.hid (bTrans HBW3.out (below_ownM HB6.out HB6.out.size HO6.out hg7))
          have HO7 := Lib.hid (own_lowerM ho7 HBW3.out.size)
          clear ho7 hg7 HO6 HB6
          go_wp2
          go_ret
          exact HON.out _ _ v7 w7 _ HSP.out HD.out HLO.out rfl (by have h := HO7.out; first | exact h | simpa using h) HB7.out
end Go.Proofs.YtmngghglcgmkeaaGreatDoor

namespace Go.Proofs.YtmngghglcgmkeaaGreatDoor
open Go.RowKit Go.Sort

set_option maxHeartbeats 4000000 in
set_option maxRecDepth 100000 in
theorem wk_OnP (h : Nat → Int) (D : List Int) (A : Option Addr) (c : Nat) (d : Int) (w : World) (hn : D.length ≤ 9223372036854775807) (hd : ∀ d ∈ D, -9223372036854775808 ≤ d ∧ d ≤ 9223372036854775807) (hs : Sl encDd 1 w w.heap.size A D) (hdd : -9223372036854775808 ≤ d ∧ d ≤ 9223372036854775807) :
    Calls Tryz.prog 22 #[.agg #[.int .i64 (h 0), .int .i64 (h 1), .int .i64 (h 2), .int .i64 (h 3), .int .i64 (h 4), .int .i64 (h 5), .int .i64 (h 6), .slice A D.length c], .int .i64 d] w fun e w' => e = .returned (.int .i64 (onP h D d)) ∧ Below w.heap.size w w' := by
  obtain ⟨pb, hpb⟩ : ∃ z, w.heap.size = z := ⟨_, rfl⟩
  obtain ⟨w2, hw2⟩ : ∃ z, w.alloc (.cells #[.int .i64 (h 0), .int .i64 (h 1), .int .i64 (h 2), .int .i64 (h 3), .int .i64 (h 4), .int .i64 (h 5), .int .i64 (h 6), .slice A D.length c] 58) = z := ⟨_, rfl⟩
  have hb2 : Below w.heap.size w w2 := by rw [← hw2]; exact bAlloc _ _
  have HB2 := Lib.hid hb2
  have HK2 : Hid (Bk pb 58 #[.int .i64 (h 0), .int .i64 (h 1), .int .i64 (h 2), .int .i64 (h 3), .int .i64 (h 4), .int .i64 (h 5), .int .i64 (h 6), .slice A D.length c] w2) := Lib.hid (by rw [← hw2, ← hpb]; exact Bk.new _ _ _)
  have HS2 := Lib.hid (sl_bel hs hb2)
  have HCK := Lib.hid (wk_Check h D A c w2 hn HS2.out hd)
  have HKC : Hid (∀ W, Below w2.heap.size w2 W → W.cell? ⟨pb, 0, none⟩ = some (.int .i64 (h 0)) ∧ W.cell? ⟨pb, 1, none⟩ = some (.int .i64 (h 1)) ∧ W.cell? ⟨pb, 2, none⟩ = some (.int .i64 (h 2)) ∧ W.cell? ⟨pb, 3, none⟩ = some (.int .i64 (h 3)) ∧ W.cell? ⟨pb, 4, none⟩ = some (.int .i64 (h 4)) ∧ W.cell? ⟨pb, 5, none⟩ = some (.int .i64 (h 5)) ∧ W.cell? ⟨pb, 6, none⟩ = some (.int .i64 (h 6)) ∧ W.cell? ⟨pb, 7, none⟩ = some (.slice A D.length c)) := Lib.hid fun W hW => ⟨bCell hW (HK2.out.cell 0), bCell hW (HK2.out.cell 1), bCell hW (HK2.out.cell 2), bCell hW (HK2.out.cell 3), bCell hW (HK2.out.cell 4), bCell hW (HK2.out.cell 5), bCell hW (HK2.out.cell 6), bCell hW (HK2.out.cell 7)⟩
  have HE := Lib.hid (And.intro hpb hw2)
  obtain ⟨ce, hce⟩ : ∃ z, chkP h D = z := ⟨_, rfl⟩
  have HCE := Lib.hid hce
  have HWD : Hid (∀ W, Calls Tryz.prog 37 #[.int .i64 d] W fun e w' => e = .returned (.int .i64 (wdV d)) ∧ W = w') := Lib.hid fun W => civ_Weekday d W (by omega)
  obtain ⟨K0, K1, K2, K3, K4, K5, K6, K7⟩ := HKC.out _ (Below.refl _ _)
  rw [hce] at HCK
  clear hs hb2 hw2 hpb hce
  go_enter Tryz.func22, Tryz.ntmps22
  go_upto_region 1 with fail
  rw [HE.out.1, HE.out.2]
  clear HE
  go_wp2_with fail
  refine HCK.out.mono ?_
  rintro e w3 ⟨rfl, hb3⟩
  have HB3 := Lib.hid hb3
  have HBW : Hid (Below w.heap.size w w3) := Lib.hid (bTrans HB2.out hb3)
  clear hb3 HCK K0 K1 K2 K3 K4 K5 K6 K7
  by_cases h0 : ce = 0
  · subst h0
    have HW3 := Lib.hid (HWD.out w3)
    go_wp2_with fail
    refine HW3.out.mono ?_
    rintro e w4 ⟨rfl, rfl⟩
    clear HW3 HWD
    by_cases hc : calB d = true
    · have hcd : -25567 ≤ d ∧ d ≤ 84005 := by simpa [calB] using hc
      have hwd := (wd_cal d).1 hc
      have hwd2 : decide (wdV d < 0) = false := decide_eq_false hwd
      obtain ⟨g1, g2, g3, _⟩ := chkP_ok HCE.out
      have HON : Hid (Calls Tryz.prog 47 #[.agg #[.int .i64 (h 0), .int .i64 (h 1), .int .i64 (h 2), .int .i64 (h 3), .int .i64 (h 4), .int .i64 (h 5), .int .i64 (h 6), .slice A D.length c], .int .i64 d] w3 fun e w' => e = .returned (.int .i64 (onP h D d)) ∧ Below w3.heap.size w3 w') := Lib.hid (by
        have h := wk_on h D A c d w3 (by omega) g3 hcd (sl_bel HS2.out HB3.out)
        unfold onP onR
        rw [if_pos HCE.out, if_pos hc]
        exact h)
      obtain ⟨K0, K1, K2, K3, K4, K5, K6, K7⟩ := HKC.out _ HB3.out
      generalize wdV d = wv at *
      clear hc hcd g1 g2 g3
      go_wp2_with fail
      refine HON.out.mono ?_
      rintro e w4 ⟨rfl, hb4⟩
      have HF := Lib.hid (bTrans HBW.out hb4)
      clear hb4 HON K0 K1 K2 K3 K4 K5 K6 K7
      go_wp2
      go_ret
      exact ⟨rfl, HF.out⟩
    · have hc' : calB d = false := by simpa using hc
      have hwd := (wd_cal d).2 hc'
      have HV : Hid (onP h D d = 0) := Lib.hid (by unfold onP onR; rw [if_pos HCE.out, if_neg hc])
      rw [hwd]
      clear hc hwd
      go_wp2
      go_ret
      exact ⟨by rw [HV.out]; rfl, HBW.out⟩
  · have HV : Hid (onP h D d = 0) := Lib.hid (by unfold onP; rw [if_neg (by rw [HCE.out]; exact h0)])
    have hne : (ce != 0) = true := bne_iff_ne.2 h0
    clear h0
    go_wp2
    go_ret
    exact ⟨by rw [HV.out]; rfl, HBW.out⟩
theorem bkB {g : Nat} {t : TypeId} {cs : Array Value} {w w' : World} (h : Bk g t cs w) (hb : Below w.heap.size w w') : Bk g t cs w' := (hb.block g h.lt).trans h
theorem bk_ownM {α : Type} {enc : α → List Value} {k B g : Nat} {e t : TypeId} {v : Value} {l : List α} {cs : Array Value} {w : World} (ho : Own enc k e B v l w) (hk : Bk g t cs w) (hne : e ≠ t) : v.ownBlock ≠ some g := fun hv => by
  rcases ho.2 with ⟨h1, _⟩ | ⟨g', cap, cur, h1, _, h2, _⟩
  · rw [h1] at hv; cases hv
  · rw [h1] at hv
    have e1 : g' = g := by simpa [Value.ownBlock] using hv
    subst e1
    have h3 := hk
    unfold Bk at h3
    rw [h3] at h2
    injection h2 with h2
    injection h2 with _ h2 _
    exact hne h2.symm
/-- What a day brings. -/
abbrev gOn (h : Nat → Int) (D : List Int) (d : Int) : Bool := decide (0 < onP h D d)
set_option maxHeartbeats 4000000 in
set_option maxRecDepth 100000 in
theorem lm_taken (Z : List Ab) (A : Option Addr) (c : Nat) (h : Nat → Int) (D : List Int) (AD : Option Addr) (cD : Nat) (e0 U : Int) (w : World) (hr : riseA U e0 Z) (he : -25567 ≤ e0 ∧ U ≤ 84006) (hZ : Z.length ≤ 100000) (hs : Sl encAb 5 w w.heap.size A Z) (hn : D.length ≤ 9223372036854775807) (hd : ∀ d ∈ D, -9223372036854775808 ≤ d ∧ d ≤ 9223372036854775807) (hsD : Sl encDd 1 w w.heap.size AD D) :
    Calls Tryz.prog 40 #[.slice A Z.length c, .agg #[.int .i64 (h 0), .int .i64 (h 1), .int .i64 (h 2), .int .i64 (h 3), .int .i64 (h 4), .int .i64 (h 5), .int .i64 (h 6), .slice AD D.length cD]] w (AddR (tkM (gOn h D) Z) w) := by
  obtain ⟨pb, hpb⟩ : ∃ z, w.heap.size = z := ⟨_, rfl⟩
  obtain ⟨w2, hw2⟩ : ∃ z, w.alloc (.cells #[.int .i64 (h 0), .int .i64 (h 1), .int .i64 (h 2), .int .i64 (h 3), .int .i64 (h 4), .int .i64 (h 5), .int .i64 (h 6), .slice AD D.length cD] 58) = z := ⟨_, rfl⟩
  have hb2 : Below w.heap.size w w2 := by rw [← hw2]; exact bAlloc _ _
  have HB2 := Lib.hid hb2
  have HK2 : Hid (Bk pb 58 #[.int .i64 (h 0), .int .i64 (h 1), .int .i64 (h 2), .int .i64 (h 3), .int .i64 (h 4), .int .i64 (h 5), .int .i64 (h 6), .slice AD D.length cD] w2) := Lib.hid (by rw [← hw2, ← hpb]; exact Bk.new _ _ _)
  have HS2 := Lib.hid (sl_bel hs hb2)
  have HSD := Lib.hid (sl_bel hsD hb2)
  have HR := Lib.hid hr
  have HKC : Hid (∀ W, Below w2.heap.size w2 W → W.cell? ⟨pb, 0, none⟩ = some (.int .i64 (h 0)) ∧ W.cell? ⟨pb, 1, none⟩ = some (.int .i64 (h 1)) ∧ W.cell? ⟨pb, 2, none⟩ = some (.int .i64 (h 2)) ∧ W.cell? ⟨pb, 3, none⟩ = some (.int .i64 (h 3)) ∧ W.cell? ⟨pb, 4, none⟩ = some (.int .i64 (h 4)) ∧ W.cell? ⟨pb, 5, none⟩ = some (.int .i64 (h 5)) ∧ W.cell? ⟨pb, 6, none⟩ = some (.int .i64 (h 6)) ∧ W.cell? ⟨pb, 7, none⟩ = some (.slice AD D.length cD)) := Lib.hid fun W hW => ⟨bCell hW (HK2.out.cell 0), bCell hW (HK2.out.cell 1), bCell hW (HK2.out.cell 2), bCell hW (HK2.out.cell 3), bCell hW (HK2.out.cell 4), bCell hW (HK2.out.cell 5), bCell hW (HK2.out.cell 6), bCell hW (HK2.out.cell 7)⟩
  have HONP : Hid (∀ d W, -9223372036854775808 ≤ d ∧ d ≤ 9223372036854775807 → Below w2.heap.size w2 W → Calls Tryz.prog 22 #[.agg #[.int .i64 (h 0), .int .i64 (h 1), .int .i64 (h 2), .int .i64 (h 3), .int .i64 (h 4), .int .i64 (h 5), .int .i64 (h 6), .slice AD D.length cD], .int .i64 d] W fun e w' => e = .returned (.int .i64 (onP h D d)) ∧ Below W.heap.size W w') := Lib.hid fun d W hdd hW => wk_OnP h D AD cD d W hn hd (sl_bel HSD.out hW) hdd
  have HE := Lib.hid (And.intro hpb hw2)
  clear hs hsD hb2 hw2 hpb hr hd
  go_enter Tryz.func40, Tryz.ntmps40
  go_upto_region 1 with fail
  rw [HE.out.1, HE.out.2]
  clear HE
  go_wp2
  go_loopw [5, 11] (fun ov iv wr => ∃ i : Nat, i ≤ Z.length ∧ iv = .int .i64 i ∧ (∃ v, v = ov ∧ Hid (OwnMo w2.heap.size v (tkM (gOn h D) (Z.take i)) wr)) ∧ Hid (Below w2.heap.size w2 wr)) (fun _ iv _ => Z.length - (intOf iv).toNat)
  case atStart => exact ⟨0, Nat.zero_le _, rfl, ⟨_, rfl, Lib.hid (Own.nil _)⟩, Lib.hid (Below.refl _ _)⟩
  case round =>
    obtain ⟨i, hi, rfl, ⟨v, rfl, HO⟩, HB⟩ := hrel
    obtain ⟨wo, hwo⟩ : ∃ x : World, x = wr := ⟨_, rfl⟩
    subst hwo
    by_cases hlt : i < Z.length
    · obtain ⟨⟨xf, xt, xk, xp, xn⟩, hx⟩ : ∃ x, Z[i]? = some x := ⟨_, List.getElem?_eq_getElem hlt⟩
      obtain ⟨g, o, rfl, _, hat⟩ := HS2.out (by intro h; simp [h] at hlt)
      have C0 : wo.cell? ⟨g, o + i * 5, none⟩ = some (.int .i64 xf) := bCell HB.out (hat i _ hx 0 _ rfl)
      have C1 : wo.cell? ⟨g, o + i * 5 + 1, none⟩ = some (.int .i64 xt) := bCell HB.out (hat i _ hx 1 _ rfl)
      have C2 : wo.cell? ⟨g, o + i * 5 + 2, none⟩ = some (.int .i64 xk) := bCell HB.out (hat i _ hx 2 _ rfl)
      have C3 : wo.cell? ⟨g, o + i * 5 + 3, none⟩ = some (.int .i64 xp) := bCell HB.out (hat i _ hx 3 _ rfl)
      have C4 : wo.cell? ⟨g, o + i * 5 + 4, none⟩ = some (.int .i64 xn) := bCell HB.out (hat i _ hx 4 _ rfl)
      obtain ⟨hf1, hf2, hf3⟩ := riseA.at_ HR.out hx
      simp only at hf1 hf2 hf3
      have HTK := Lib.hid (tkM_take (g := gOn h D) hx)
      have HPL : Hid (∀ j : Nat, (j : Int) ≤ xt - xf → ((tkM (gOn h D) (Z.take i) ++ dayL (gOn h D) xf j).length : Int) ≤ U - e0) := Lib.hid fun j hj => part_len HR.out hx hj
      obtain ⟨S, hS⟩ : ∃ S, tkM (gOn h D) (Z.take i) = S := ⟨_, rfl⟩
      rw [hS] at HO HTK HPL
      obtain ⟨xb, hxb⟩ : ∃ z, wo.heap.size = z := ⟨_, rfl⟩
      obtain ⟨wx, hwx⟩ : ∃ z, wo.alloc (.cells #[.int .i64 xf, .int .i64 xt, .int .i64 xk, .int .i64 xp, .int .i64 xn] 48) = z := ⟨_, rfl⟩
      have hbx : Below wo.heap.size wo wx := by rw [← hwx]; exact bAlloc _ _
      have hkx : Bk xb 48 #[.int .i64 xf, .int .i64 xt, .int .i64 xk, .int .i64 xp, .int .i64 xn] wx := by rw [← hwx, ← hxb]; exact Bk.new _ _ _
      have HBX : Hid (Below w2.heap.size w2 wx) := Lib.hid (bTrans HB.out hbx)
      have HKX := Lib.hid hkx
      have HOX : Hid (OwnMo w2.heap.size v S wx) := Lib.hid (own_bel HO.out hbx)
      have X0 : wx.cell? ⟨xb, 0, none⟩ = some (.int .i64 xf) := hkx.cell 0
      have X1 : wx.cell? ⟨xb, 1, none⟩ = some (.int .i64 xt) := hkx.cell 1
      have X2 : wx.cell? ⟨xb, 2, none⟩ = some (.int .i64 xk) := hkx.cell 2
      have HE := Lib.hid (And.intro hxb hwx)
      clear hx hat hxb hwx hbx hkx HO HB hS
      go_upto_region 5 with fail
      rw [HE.out.1, HE.out.2]
      clear HE C0 C1 C2 C3 C4
      by_cases hk1 : xk = 1
      · subst hk1
        have HT1 : Hid (tkM (gOn h D) (Z.take (i + 1)) = S ++ dayL (gOn h D) xf (xt - xf).toNat) := Lib.hid (by rw [HTK.out]; unfold tkOne; rw [if_pos rfl])
        clear HTK
        go_wp2
        clear X0 X1 X2
        go_loopw [5, 8] (fun ov dv wr => ∃ j : Nat, (j : Int) ≤ xt - xf ∧ dv = .int .i64 (xf + j) ∧ (∃ v, v = ov ∧ Hid (OwnMo w2.heap.size v (S ++ dayL (gOn h D) xf j) wr)) ∧ Hid (Bk xb 48 #[.int .i64 xf, .int .i64 xt, .int .i64 1, .int .i64 xp, .int .i64 xn] wr) ∧ Hid (Below w2.heap.size w2 wr)) (fun _ dv _ => (xt - intOf dv).toNat)
        case atStart => exact ⟨0, by omega, by simp, ⟨_, rfl, by simpa [dayL] using HOX⟩, HKX, HBX⟩
        case round =>
          obtain ⟨j, hj, rfl, ⟨v, rfl, HO⟩, HK, HB⟩ := hrel
          obtain ⟨wo, hwo⟩ : ∃ x : World, x = wr := ⟨_, rfl⟩
          subst hwo
          obtain ⟨d, hd⟩ : ∃ d, xf + (j : Int) = d := ⟨_, rfl⟩
          rw [hd]
          have X1 : wo.cell? ⟨xb, 1, none⟩ = some (.int .i64 xt) := HK.out.cell 1
          by_cases hlt2 : d < xt
          · have HDE := Lib.hid hd
            have hdb : -25567 ≤ d ∧ d ≤ 84006 := by omega
            have HSTEP : Hid (dayL (gOn h D) xf (j + 1) = dayL (gOn h D) xf j ++ (if decide (0 < onP h D d) = true then [(d, 0, 100)] else [])) := Lib.hid (by rw [dayL, hd])
            have HLEN : Hid ((S ++ dayL (gOn h D) xf j).length ≤ 1000000) := Lib.hid (by have := HPL.out j hj; omega)
            obtain ⟨R, hR⟩ : ∃ R, S ++ dayL (gOn h D) xf j = R := ⟨_, rfl⟩
            have HR2 : Hid (S ++ dayL (gOn h D) xf (j + 1) = R ++ (if decide (0 < onP h D d) = true then [(d, 0, 100)] else [])) := Lib.hid (by rw [HSTEP.out, ← List.append_assoc, hR])
            rw [hR] at HO HLEN
            have HCA := Lib.hid (HONP.out d wo (by omega) HB.out)
            obtain ⟨K0, K1, K2, K3, K4, K5, K6, K7⟩ := HKC.out _ HB.out
            obtain ⟨m, hm⟩ : ∃ m, onP h D d = m := ⟨_, rfl⟩
            rw [hm] at HCA HR2
            clear hd hR HSTEP hm
            go_wp2_with fail
            refine HCA.out.mono ?_
            rintro e w5 ⟨rfl, hb5⟩
            have HB5 : Hid (Below w2.heap.size w2 w5) := Lib.hid (bTrans HB.out hb5)
            have HO5 : Hid (OwnMo w2.heap.size v R w5) := Lib.hid (own_bel HO.out hb5)
            have HK5 := Lib.hid (bkB HK.out hb5)
            clear hb5 HCA K0 K1 K2 K3 K4 K5 K6 K7 X1 HO HB HK
            by_cases hm0 : 0 < m
            · have HR3 : Hid (S ++ dayL (gOn h D) xf (j + 1) = R ++ [(d, 0, 100)]) := Lib.hid (by rw [HR2.out, if_pos (decide_eq_true hm0)])
              have HS5 : Hid (w2.heap.size ≤ w5.heap.size) := Lib.hid HB5.out.size
              have HNW := Lib.hid (newsMo (d, 0, 100) w5)
              have hRl := HLEN.out
              have HNE : Hid (v.ownBlock ≠ some xb) := Lib.hid (bk_ownM HO5.out HK5.out (by decide))
              clear HR2 HLEN
              go_wp2_with ((at_builtin; refine wpList_append_row Mo.encM_len encMo_one rfl _ _ 59 rfl w2.heap.size 70 _ 24 Tryz.underlying59 moInfo rfl (by decide) v R (d, 0, 100) rfl (HO5.out.alloc _) w5.heap.size 1 rfl HNW.out (by omega) (by decide) (Nat.le_trans HS5.out (Grows.of_alloc w5 _).size) ?_))
              intro v6 w6 ho6 hg6
              have HB6 : Hid (Below w2.heap.size w2 w6) := Lib.hid (below_ownM (bTrans HB5.out (bAlloc w5 _)) (Nat.le_trans HS5.out (Grows.of_alloc w5 _).size) (HO5.out.alloc _) hg6)
              have HK6 : Hid (Bk xb 48 #[.int .i64 xf, .int .i64 xt, .int .i64 1, .int .i64 xp, .int .i64 xn] w6) := Lib.hid ((bkB HK5.out (bAlloc w5 _)).grownBy hg6 HNE.out.symm)
              have HO6 := Lib.hid ho6
              clear ho6 hg6 HO5 HNW HB5 HS5 HK5
              go_wp2
              exact ⟨⟨j + 1, by have := HDE.out; omega, by have := HDE.out; congr 1; omega, ⟨v6, rfl, by rw [HR3.out]; exact HO6⟩, HK6, HB6⟩, by simp [intOf]; omega⟩
            · have HR3 : Hid (S ++ dayL (gOn h D) xf (j + 1) = R) := Lib.hid (by rw [HR2.out, if_neg (by simpa using hm0), List.append_nil])
              clear HR2 HLEN
              go_wp2
              exact ⟨⟨j + 1, by have := HDE.out; omega, by have := HDE.out; congr 1; omega, ⟨v, rfl, by rw [HR3.out]; exact HO5⟩, HK5, HB5⟩, by simp [intOf]; omega⟩
          · have HO9 : Hid (OwnMo w2.heap.size v (tkM (gOn h D) (Z.take (i + 1))) wo) := Lib.hid (by
              rw [HT1.out, show (xt - xf).toNat = j by omega]
              exact HO.out)
            clear hd HO HK
            go_wp2
            exact ⟨⟨i + 1, by omega, by go_num, ⟨v, rfl, HO9⟩, HB⟩, by simp [intOf]; omega⟩
      · have HT1 : Hid (tkM (gOn h D) (Z.take (i + 1)) = S) := Lib.hid (by rw [HTK.out]; unfold tkOne; rw [if_neg hk1, List.append_nil])
        have hk2 : (xk != 1) = true := bne_iff_ne.2 hk1
        clear HTK HKX
        go_wp2
        exact ⟨⟨i + 1, by omega, by go_num, ⟨v, rfl, by rw [HT1.out]; exact HOX⟩, HBX⟩, by simp [intOf]; omega⟩
    · obtain rfl : i = Z.length := by omega
      have HF : Hid (AddR (tkM (gOn h D) Z) w (.returned v) wo) := Lib.hid (AddR.of (by rw [List.take_length]) rfl (own_lowerM HO.out HB2.out.size) (bTrans HB2.out HB.out))
      clear HO HB hlt
      go_wp2
      go_ret
      exact HF.out
end Go.Proofs.YtmngghglcgmkeaaGreatDoor

namespace Go.Proofs.YtmngghglcgmkeaaGreatDoor
open Go.RowKit Go.Sort

/-- The sort of a row of moves of the call's own. -/
theorem sort_ownM (B : Nat) (v : Value) (l : List Mvt) (w : World) (hn : l.length ≤ 1000000) (h : OwnMo B v l w) :
    ∃ A c, v = .slice A l.length c ∧ Calls Tryz.prog 41 #[.slice A l.length c, .func (.func 42) #[] #[]] w fun e w' => e = .returned (.tuple #[]) ∧ Sl Mo.encM 3 w' w'.heap.size A (ss Mo.lt l) ∧ w.grownBy w' v.ownBlock := by
  rcases h.2 with ⟨hv, h0⟩ | ⟨g, cap, cur, hv, hb, hg, hn0, hcm, hcs, ht⟩
  · obtain rfl : l = [] := List.length_eq_zero_iff.1 h0
    subst hv
    exact ⟨none, 0, rfl, (Mo.sortNil _ w).mono fun e w' hh => ⟨hh.1, fun hl => absurd rfl hl, hh.2 ▸ World.grownBy.refl _ _⟩⟩
  · have hr : Mo.RowM g cap l w := by
      refine ⟨cur, hg, hcs, hn0, fun i x hx j u hu => ?_⟩
      have h1 := rowOf_get Mo.encM_len l i x hx j u hu
      rw [← ht, List.getElem?_take] at h1
      split at h1
      · simpa using h1
      · cases h1
    subst hv
    exact ⟨some ⟨g, 0, none⟩, cap, rfl, (Mo.sortStable g cap l w hn hr).mono fun e w' hh => ⟨hh.1, fun _ => ⟨g, 0, rfl, hh.2.2.lt, fun i x hx j u hu => by rw [Nat.zero_add]; exact hh.2.2.cell hx hu⟩, hh.2.1⟩⟩
/-- What Moves answers. -/
def MovR (L : List Mvt) (er : Int) (w : World) (e : Ending) (w' : World) : Prop := (∃ A c, e = .returned (.tuple #[.slice A L.length c, .int .i64 er]) ∧ Sl Mo.encM 3 w' w'.heap.size A L) ∧ Below w.heap.size w w'
theorem MovR.of {L M : List Mvt} {er en : Int} {w w' : World} {e : Ending} {A : Option Addr} {c : Nat} (hL : M = L) (hE : en = er) (he : e = .returned (.tuple #[.slice A M.length c, .int .i64 en])) (ho : Sl Mo.encM 3 w' w'.heap.size A M) (hb : Below w.heap.size w w') : MovR L er w e w' := by
  subst hL; subst hE
  exact ⟨⟨A, c, he, ho⟩, hb⟩
theorem sl_nilM (w : World) : Sl Mo.encM 3 w w.heap.size none [] := fun h => absurd rfl h
set_option maxHeartbeats 4000000 in
set_option maxRecDepth 100000 in
theorem lm_Moves (T : List Fa) (AV : Option Addr) (cV : Nat) (pe : Int) (h : Nat → Int) (D : List Int) (AD : Option Addr) (cD : Nat) (un : Int) (w : World) (hT : T.length ≤ 4096) (hc : ∀ f ∈ T, chkF f = 0) (hs : SlF w AV T) (hn : D.length ≤ 9223372036854775807) (hd : ∀ d ∈ D, -9223372036854775808 ≤ d ∧ d ≤ 9223372036854775807) (hsD : Sl encDd 1 w w.heap.size AD D) (hun : -9223372036854775808 ≤ un ∧ un ≤ 9223372036854775807) (hC : Tab w) :
    Calls Tryz.prog 17 #[.agg #[.slice AV T.length cV], .int .u32 pe, .agg #[.int .i64 (h 0), .int .i64 (h 1), .int .i64 (h 2), .int .i64 (h 3), .int .i64 (h 4), .int .i64 (h 5), .int .i64 (h 6), .slice AD D.length cD], .int .i64 un] w (MovR (movL T pe h D un) (movE T pe h D un) w) := by
  obtain ⟨vb, hvb⟩ : ∃ x, w.heap.size = x := ⟨_, rfl⟩
  obtain ⟨pb, hpb⟩ : ∃ x, vb + 1 = x := ⟨_, rfl⟩
  obtain ⟨w2, hw2⟩ : ∃ x, (w.alloc (.cells #[.slice AV T.length cV] 43)).alloc (.cells #[.int .i64 (h 0), .int .i64 (h 1), .int .i64 (h 2), .int .i64 (h 3), .int .i64 (h 4), .int .i64 (h 5), .int .i64 (h 6), .slice AD D.length cD] 58) = x := ⟨_, rfl⟩
  obtain ⟨k1, k2, hb2⟩ := bkk2 w _ _ _ _ hvb hpb hw2
  have HB2 := Lib.hid hb2
  have HK1 := Lib.hid k1
  have HK2 := Lib.hid k2
  have HTS := Lib.hid (hs.below hb2)
  have HSD := Lib.hid (sl_bel hsD hb2)
  have HTC : Hid (Tab w2) := Lib.hid (tabW hC hb2)
  have HDD := Lib.hid hd
  have HCH := Lib.hid hc
  have HKC : Hid (∀ W, Below w2.heap.size w2 W → W.cell? ⟨vb, 0, none⟩ = some (.slice AV T.length cV) ∧ W.cell? ⟨pb, 0, none⟩ = some (.int .i64 (h 0)) ∧ W.cell? ⟨pb, 1, none⟩ = some (.int .i64 (h 1)) ∧ W.cell? ⟨pb, 2, none⟩ = some (.int .i64 (h 2)) ∧ W.cell? ⟨pb, 3, none⟩ = some (.int .i64 (h 3)) ∧ W.cell? ⟨pb, 4, none⟩ = some (.int .i64 (h 4)) ∧ W.cell? ⟨pb, 5, none⟩ = some (.int .i64 (h 5)) ∧ W.cell? ⟨pb, 6, none⟩ = some (.int .i64 (h 6)) ∧ W.cell? ⟨pb, 7, none⟩ = some (.slice AD D.length cD)) := Lib.hid fun W hW => ⟨bCell hW (HK1.out.cell 0), bCell hW (HK2.out.cell 0), bCell hW (HK2.out.cell 1), bCell hW (HK2.out.cell 2), bCell hW (HK2.out.cell 3), bCell hW (HK2.out.cell 4), bCell hW (HK2.out.cell 5), bCell hW (HK2.out.cell 6), bCell hW (HK2.out.cell 7)⟩
  have HWD : Hid (Calls Tryz.prog 37 #[.int .i64 un] w2 fun e w' => e = .returned (.int .i64 (wdV un)) ∧ w2 = w') := Lib.hid (civ_Weekday un w2 (by omega))
  have HCK := Lib.hid (wk_Check h D AD cD w2 hn HSD.out hd)
  have HE := Lib.hid (And.intro hvb (And.intro hpb hw2))
  clear hs hsD hb2 hw2 hvb hpb k1 k2 hC hd hc
  go_enter Tryz.func17, Tryz.ntmps17
  go_upto_region 1 with fail
  rw [HE.out.1, HE.out.2.1, HE.out.2.2]
  clear HE
  go_wp2_with fail
  refine HWD.out.mono ?_
  rintro e wz ⟨rfl, hwz⟩
  subst hwz
  clear HWD
  by_cases hcu : calB un = true
  · have hcd : -25567 ≤ un ∧ un ≤ 84005 := by simpa [calB] using hcu
    have hwd := (wd_cal un).1 hcu
    have HU : Hid (calU un = true) := Lib.hid hcu
    have HUN := Lib.hid hcd
    obtain ⟨ce, hce⟩ : ∃ z, chkP h D = z := ⟨_, rfl⟩
    have HCE := Lib.hid hce
    rw [hce] at HCK
    obtain ⟨K8, K0, K1, K2, K3, K4, K5, K6, K7⟩ := HKC.out _ (Below.refl _ _)
    generalize wdV un = wv at *
    clear hcu hce
    go_wp2_with fail
    refine HCK.out.mono ?_
    rintro e w3 ⟨rfl, hb3⟩
    have HB3 := Lib.hid hb3
    clear hb3 HCK K0 K1 K2 K3 K4 K5 K6 K7 K8 hwd
    by_cases h0 : ce = 0
    · subst h0
      have HF1 : Hid (Calls Tryz.prog 38 #[.int .i64 1900] w3 fun e w' => e = .returned (.int .i64 (-25567)) ∧ Below w3.heap.size w3 w') := Lib.hid (by
        have h := Lv.first_of 1900 w3 (tabW HTC.out HB3.out) (by decide) (by decide)
        rw [show Cal.st 1900 - 25567 = -25567 by rw [Cal.st_1900]; rfl] at h
        exact h.mono fun e w' ⟨h1, h2⟩ => ⟨h1, h2.below⟩)
      go_wp2_with fail
      refine HF1.out.mono ?_
      rintro e w4 ⟨rfl, hb4⟩
      obtain ⟨sb, hsb⟩ : ∃ z, w4.heap.size = z := ⟨_, rfl⟩
      obtain ⟨w5, hw5⟩ : ∃ z, w4.alloc (.cells #[.int .i64 (-25567), .int .i64 (un + 1)] 28) = z := ⟨_, rfl⟩
      have hb5 : Below w2.heap.size w2 w5 := by rw [← hw5]; exact bTrans HB3.out (bTrans hb4 (bAlloc _ _))
      have hks : Bk sb 28 #[.int .i64 (-25567), .int .i64 (un + 1)] w5 := by rw [← hw5, ← hsb]; exact Bk.new _ _ _
      have HB5 := Lib.hid hb5
      have HS5 : Hid (∀ W, Below w5.heap.size w5 W → W.cell? ⟨sb, 0, none⟩ = some (.int .i64 (-25567)) ∧ W.cell? ⟨sb, 1, none⟩ = some (.int .i64 (un + 1))) := Lib.hid fun W hW => ⟨bCell hW (hks.cell 0), bCell hW (hks.cell 1)⟩
      obtain ⟨Z, hZ⟩ : ∃ Z, absX (kA T pe) (-25567) (un + 1) = Z := ⟨_, rfl⟩
      have HZR : Hid (riseA (un + 1) (-25567) Z) := Lib.hid (by rw [← hZ]; exact absX_rise _ (by omega))
      have HZL : Hid (Z.length ≤ 10001) := Lib.hid (by
        rw [← hZ]
        unfold absX strQ
        rw [List.length_map]
        exact Nat.le_trans (List.length_filter_le _ _) (strL_len _ _ (Nat.le_trans (chosen_len _ _ _) hT)))
      have HOF : Hid (Calls Tryz.prog 11 #[.agg #[.slice AV T.length cV], .int .u32 pe, .agg #[.int .i64 (-25567), .int .i64 (un + 1)]] w5 fun e w' => (∃ A c, e = .returned (.tuple #[.slice A Z.length c, .int .i64 0]) ∧ Sl encAb 5 w' w'.heap.size A Z) ∧ Below w5.heap.size w5 w') := Lib.hid (by
        have h := ab_Of T AV cV pe (-25567) (un + 1) w5 hT (HTS.out.below hb5) (by omega) (by omega)
        refine h.mono fun e w' ⟨h1, h2⟩ => ⟨?_, h2⟩
        rw [if_pos (by unfold withB calB; rw [decide_eq_true (p := (-25567 : Int) ≤ -25567) (by omega), decide_eq_true (p := (-25567 : Int) ≤ 84005) (by omega), decide_eq_true (p := -25567 ≤ un + 1 - 1) (by omega), decide_eq_true (p := un + 1 - 1 ≤ 84005) (by omega)]; simp), hZ] at h1
        obtain ⟨A', c', he, ho⟩ := h1
        obtain ⟨A4, c4, e3, _, h4⟩ := own_sl encAb_len ho
        injection e3 with e3 _ _
        rw [← e3] at h4
        exact ⟨A', c', he, h4⟩)
      obtain ⟨G, hG⟩ : ∃ G, gK T pe = G := ⟨_, rfl⟩
      have HGL : Hid (G.length ≤ 4096) := Lib.hid (by rw [← hG]; exact Nat.le_trans (chosen_len _ _ _) hT)
      have HGF : Hid (∀ x ∈ G, -25567 ≤ x.2.fr ∧ x.2.fr ≤ 84005) := Lib.hid fun x hx => chk_fromL (HCH.out x.2 (by rw [← hG] at hx; exact (mem_chosenL hx).1))
      have HALL : Hid (allM T pe h D un = grM un G ++ tkM (gOn h D) Z) := Lib.hid (by unfold allM; rw [hG, hZ])
      have HFA : Hid (∀ W, Below w5.heap.size w5 W → Calls Tryz.prog 20 #[.agg #[.slice AV T.length cV], .int .u32 pe, .int .i64 17] W fun e w' => ∃ A c, e = .returned (.slice A G.length c) ∧ Below W.heap.size W w' ∧ Sl encK 9 w' w'.heap.size A G) := Lib.hid fun W hW => (vi_Facts T AV cV pe 17 W hT (HTS.out.below (bTrans HB5.out hW))).mono fun e w' ⟨⟨v, h1, h2⟩, h3⟩ => by
        have hX' : chosen (ofPK pe 17) T T.length = G := hG
        rw [hX'] at h2
        obtain ⟨A, c, rfl, _, h4⟩ := own_sl encK_len h2
        exact ⟨A, c, h1, h3, h4⟩
      obtain ⟨K8, K0, K1, K2, K3, K4, K5, K6, K7⟩ := HKC.out _ HB5.out
      obtain ⟨S0, S1⟩ := HS5.out _ (Below.refl _ _)
      have HE := Lib.hid (And.intro hsb hw5)
      clear hsb hw5 hb5 hb4 hks hZ hG HF1
      go_upto_region 7 with fail
      rw [HE.out.1, HE.out.2]
      clear HE
      go_wp2_with fail
      refine HOF.out.mono ?_
      rintro e w6 ⟨⟨Az, cz, rfl, hsz⟩, hb6⟩
      have HB6 := Lib.hid hb6
      have HSZ := Lib.hid hsz
      clear hsz hb6 HOF K0 K1 K2 K3 K4 K5 K6 K7 K8 S0 S1
      obtain ⟨K8, _⟩ := HKC.out _ (bTrans HB5.out HB6.out)
      have HF6 := Lib.hid (HFA.out w6 HB6.out)
      go_wp2_with fail
      refine HF6.out.mono ?_
      rintro e w7 ⟨Ag, cg, rfl, hb7, hsg⟩
      have HB57 : Hid (Below w5.heap.size w5 w7) := Lib.hid (bTrans HB6.out hb7)
      have HSZ7 := Lib.hid (sl_bel HSZ.out hb7)
      have HSG := Lib.hid hsg
      clear hb7 hsg HF6 HFA K8 HSZ HB6
      have hgl := HGL.out
      go_wp2
      go_loopw [14, 44] (fun ov iv wr => ∃ i : Nat, i ≤ G.length ∧ iv = .int .i64 i ∧ (∃ v, v = ov ∧ Hid (OwnMo w7.heap.size v (grM un (G.take i)) wr)) ∧ Hid (Below w7.heap.size w7 wr)) (fun _ iv _ => G.length - (intOf iv).toNat)
      case atStart => exact ⟨0, Nat.zero_le _, rfl, ⟨_, rfl, Lib.hid (Own.nil _)⟩, Lib.hid (Below.refl _ _)⟩
      case round =>
        obtain ⟨i, hi, rfl, ⟨v, rfl, HO⟩, HB⟩ := hrel
        obtain ⟨wo, hwo⟩ : ∃ x : World, x = wr := ⟨_, rfl⟩
        subst hwo
        by_cases hlt : i < G.length
        · obtain ⟨⟨xN, ⟨xid, xpe, xki, xfr, xto, xco, xnu, xtx⟩⟩, hx⟩ : ∃ x, G[i]? = some x := ⟨_, List.getElem?_eq_getElem hlt⟩
          obtain ⟨g, o, rfl, _, hat⟩ := HSG.out (by intro h; simp [h] at hlt)
          have hat1 := fun j u (hu : (encK (xN, ⟨xid, xpe, xki, xfr, xto, xco, xnu, xtx⟩))[j]? = some u) => bCell HB.out (hat i _ hx j u hu)
          have C0 : wo.cell? ⟨g, o + i * 9, none⟩ = some (.int .i64 xN) := hat1 0 _ rfl
          have C1 : wo.cell? ⟨g, o + i * 9 + 1, none⟩ = some (.int .u32 xid) := hat1 1 _ rfl
          have C2 : wo.cell? ⟨g, o + i * 9 + 2, none⟩ = some (.int .u32 xpe) := hat1 2 _ rfl
          have C3 : wo.cell? ⟨g, o + i * 9 + 3, none⟩ = some (.int .i64 xki) := hat1 3 _ rfl
          have C4 : wo.cell? ⟨g, o + i * 9 + 4, none⟩ = some (.int .i64 xfr) := hat1 4 _ rfl
          have C5 : wo.cell? ⟨g, o + i * 9 + 5, none⟩ = some (.int .i64 xto) := hat1 5 _ rfl
          have C6 : wo.cell? ⟨g, o + i * 9 + 6, none⟩ = some (.string xco) := hat1 6 _ rfl
          have C7 : wo.cell? ⟨g, o + i * 9 + 7, none⟩ = some (.int .i64 xnu) := hat1 7 _ rfl
          have C8 : wo.cell? ⟨g, o + i * 9 + 8, none⟩ = some (.string xtx) := hat1 8 _ rfl
          have hfr := HGF.out _ (List.mem_of_getElem? hx)
          simp only at hfr
          have HGT := Lib.hid (grM_take (un := un) hx)
          have HGP := Lib.hid (Nat.le_trans (grM_part un G i) hgl)
          obtain ⟨S, hS⟩ : ∃ S, grM un (G.take i) = S := ⟨_, rfl⟩
          rw [hS] at HO HGT HGP
          obtain ⟨kb, hkb⟩ : ∃ z, wo.heap.size = z := ⟨_, rfl⟩
          obtain ⟨wx, hwx⟩ : ∃ z, wo.alloc (.cells #[.int .i64 xN, .int .u32 xid, .int .u32 xpe, .int .i64 xki, .int .i64 xfr, .int .i64 xto, .string xco, .int .i64 xnu, .string xtx] 67) = z := ⟨_, rfl⟩
          have hbx : Below wo.heap.size wo wx := by rw [← hwx]; exact bAlloc _ _
          have hkx : Bk kb 67 #[.int .i64 xN, .int .u32 xid, .int .u32 xpe, .int .i64 xki, .int .i64 xfr, .int .i64 xto, .string xco, .int .i64 xnu, .string xtx] wx := by rw [← hwx, ← hkb]; exact Bk.new _ _ _
          have HBX := Lib.hid hbx
          have HKX := Lib.hid hkx
          have HE := Lib.hid (And.intro hkb hwx)
          clear hx hat hat1 hS hkb hwx hbx hkx
          go_upto_region 14 with fail
          rw [HE.out.1, HE.out.2]
          clear HE C0 C1 C2 C3 C4 C5 C6 C7 C8
          have X4 : wx.cell? ⟨kb, 4, none⟩ = some (.int .i64 xfr) := HKX.out.cell 4
          obtain ⟨db, hdb⟩ : ∃ z, wx.heap.size = z := ⟨_, rfl⟩
          obtain ⟨wy, hwy⟩ : ∃ z, wx.alloc (.cells #[.int .i64 xfr, .int .i64 (xfr + 1)] 28) = z := ⟨_, rfl⟩
          have hby : Below wx.heap.size wx wy := by rw [← hwy]; exact bAlloc _ _
          have hky : Bk db 28 #[.int .i64 xfr, .int .i64 (xfr + 1)] wy := by rw [← hwy, ← hdb]; exact Bk.new _ _ _
          have HBY : Hid (Below wo.heap.size wo wy) := Lib.hid (bTrans HBX.out hby)
          have HDC : Hid (∀ W, Below wy.heap.size wy W → W.cell? ⟨db, 0, none⟩ = some (.int .i64 xfr) ∧ W.cell? ⟨db, 1, none⟩ = some (.int .i64 (xfr + 1))) := Lib.hid fun W hW => ⟨bCell hW (hky.cell 0), bCell hW (hky.cell 1)⟩
          have HSC : Hid (∀ W, Below wy.heap.size wy W → W.cell? ⟨sb, 0, none⟩ = some (.int .i64 (-25567)) ∧ W.cell? ⟨sb, 1, none⟩ = some (.int .i64 (un + 1))) := Lib.hid fun W hW => HS5.out W (bTrans HB57.out (bTrans HB.out (bTrans HBY.out hW)))
          have HKN : Hid (∀ W, Below wy.heap.size wy W → W.cell? ⟨kb, 7, none⟩ = some (.int .i64 xnu)) := Lib.hid fun W hW => bCell (bTrans hby hW) (HKX.out.cell 7)
          obtain ⟨gb, hgb⟩ : ∃ b, decide ((crossS xfr (xfr + 1) (-25567) (un + 1)).1 = xfr ∧ (crossS xfr (xfr + 1) (-25567) (un + 1)).2 = xfr + 1) = b := ⟨_, rfl⟩
          have HGD := Lib.hid hgb
          have HGB : Hid (gb = decide (xfr ≤ un)) := Lib.hid (by
            rw [← hgb]
            refine decide_eq_decide.2 (Iff.trans ⟨fun h => Prod.ext h.1 h.2, fun h => by rw [h]; exact ⟨rfl, rfl⟩⟩ (cross_day hfr.1)))
          have HE := Lib.hid (And.intro hdb hwy)
          clear hdb hwy hby hky hgb HBX HKX
          go_upto_region 15 with fail
          rw [HE.out.1, HE.out.2]
          clear HE X4
          go_cut [60] from 56 to 60 (fun v wx => v = .bool gb ∧ Hid (Below wy.heap.size wy wx))
          case first =>
            refine wp_region_use (SPS [(17, Sp.val (.pointer (some ⟨db, 0, none⟩))), (11, Sp.val (.pointer (some ⟨sb, 0, none⟩))), (56, Sp.val (.agg #[.int .i64 xfr, .int .i64 (xfr + 1)])), (57, Sp.val (.agg #[.int .i64 (-25567), .int .i64 (un + 1)])), (58, Sp.val (.agg #[.int .i64 (crossS xfr (xfr + 1) (-25567) (un + 1)).1, .int .i64 (crossS xfr (xfr + 1) (-25567) (un + 1)).2])), (59, Sp.val (.agg #[.int .i64 xfr, .int .i64 (xfr + 1)])), (60, Sp.val (.bool gb))]) [] [56, 57, 58, 59, 60] rfl (by rfl) (by kernel_rfl) (SPS.st _) (by rfl) ?_ (opsK_all ?_) ?_
            · exact sps_start (cons_all rfl (cons_all rfl (nil_all)))
            · refine opsK_cons (by
               exact use_s [] (opOk_load (p := ⟨db, 0, none⟩) rfl rfl (.inl rfl) (by kernel_rfl) (fun _ _ h => h.get rfl) (fun W hW => by
                  obtain ⟨k0, k1⟩ := HDC.out _ hW
                  exact ⟨.agg #[.int .i64 xfr, .int .i64 (xfr + 1)], by go_simp, sps rfl rfl⟩)) (by kernel_rfl) (by rfl)) ?_
              refine opsK_cons (by
               exact use_s [] (opOk_load (p := ⟨sb, 0, none⟩) rfl rfl (.inl rfl) (by kernel_rfl) (fun _ _ h => h.get rfl) (fun W hW => by
                  obtain ⟨k0, k1⟩ := HSC.out _ hW
                  exact ⟨.agg #[.int .i64 (-25567), .int .i64 (un + 1)], by go_simp, sps rfl rfl⟩)) (by kernel_rfl) (by rfl)) ?_
              refine opsK_cons (by
               exact use_s [] (opOk_callg (fun a => #[a.eval (.tmp 56), a.eval (.tmp 57)]) rfl rfl (.inl rfl) (fun a => by simp only [List.map_toArray, List.map_cons, List.map_nil] <;> rfl) (fun args W => by go_simp) (fun a W hW hsp => by
                  have e56 : a.eval (.tmp 56) = .agg #[.int .i64 xfr, .int .i64 (xfr + 1)] := (hsp 56 (by kernel_rfl)).get rfl
                  have e57 : a.eval (.tmp 57) = .agg #[.int .i64 (-25567), .int .i64 (un + 1)] := (hsp 57 (by kernel_rfl)).get rfl
                  simp only [e56, e57]
                  exact (sp_Cross xfr (xfr + 1) (-25567) (un + 1) _).mono fun e w' ⟨he, hb⟩ => ⟨_, he, hb, sps rfl rfl⟩)) (by kernel_rfl) (by rfl)) ?_
              refine opsK_cons (by
               exact use_s [] (opOk_load (p := ⟨db, 0, none⟩) rfl rfl (.inl rfl) (by kernel_rfl) (fun _ _ h => h.get rfl) (fun W hW => by
                  obtain ⟨k0, k1⟩ := HDC.out _ hW
                  exact ⟨.agg #[.int .i64 xfr, .int .i64 (xfr + 1)], by go_simp, sps rfl rfl⟩)) (by kernel_rfl) (by rfl)) ?_
              refine opsK_cons (by
               exact use_s [] (opOk_run rfl (.inl rfl) (fun a W hW hsp => by
                  have e58 : a.eval (.tmp 58) = .agg #[.int .i64 (crossS xfr (xfr + 1) (-25567) (un + 1)).1, .int .i64 (crossS xfr (xfr + 1) (-25567) (un + 1)).2] := (hsp 58 (by kernel_rfl)).get rfl
                  have e59 : a.eval (.tmp 59) = .agg #[.int .i64 xfr, .int .i64 (xfr + 1)] := (hsp 59 (by kernel_rfl)).get rfl
                  refine ⟨.bool gb, ?_, sps rfl rfl⟩
                  unfold execOp
                  simp only [e58, e59]
                  go_simp
                  have hg := HGD.out
                  by_cases h1 : (crossS xfr (xfr + 1) (-25567) (un + 1)).1 = xfr
                  · rw [if_pos h1]
                    by_cases h2 : (crossS xfr (xfr + 1) (-25567) (un + 1)).2 = xfr + 1
                    · rw [if_pos h2, ← hg, decide_eq_true ⟨h1, h2⟩]
                    · rw [if_neg h2, ← hg, decide_eq_false (fun h => h2 h.2)]
                  · rw [if_neg h1, ← hg, decide_eq_false (fun h => h1 h.1)])) (by kernel_rfl) (by rfl)) ?_
              exact opsK_nil
            · intro vs W3 hb hsp
              have z := (hsp 60 (by simp)).get rfl
              simp only [putAll]
              go_simp
              go_step
              go_meet
              exact ⟨by first | rfl | exact z, Lib.hid hb⟩
          case rest =>
          obtain ⟨rfl, HBC⟩ := hcut
          obtain ⟨wc2, rfl⟩ : ∃ x : World, x = wc := ⟨_, rfl⟩
          have HBN : Hid (Below w7.heap.size w7 wc2) := Lib.hid (bTrans HB.out (bTrans HBY.out HBC.out))
          have HON : Hid (OwnMo w7.heap.size v S wc2) := Lib.hid (own_bel HO.out (bTrans HBY.out HBC.out))
          obtain ⟨D0, _⟩ := HDC.out _ HBC.out
          have X7 := HKN.out _ HBC.out
          clear HO HB HBY HBC HDC HSC HKN HGD
          cases gb with
          | true =>
            have HG3 : Hid (grM un (G.take (i + 1)) = S ++ [(xfr, xnu, 0)]) := Lib.hid (by rw [HGT.out, if_pos (of_decide_eq_true HGB.out.symm)])
            have HSI : Hid (w7.heap.size ≤ wc2.heap.size) := Lib.hid HBN.out.size
            have HNW := Lib.hid (newsMo (xfr, xnu, 0) wc2)
            have hSl := HGP.out
            clear HGT HGB HGP
            go_wp2_with ((at_builtin; refine wpList_append_row Mo.encM_len encMo_one rfl _ _ 59 rfl w7.heap.size 70 _ 24 Tryz.underlying59 moInfo rfl (by decide) v S (xfr, xnu, 0) rfl (HON.out.alloc _) wc2.heap.size 1 rfl HNW.out (by omega) (by decide) (Nat.le_trans HSI.out (Grows.of_alloc wc2 _).size) ?_))
            intro v6 w6 ho6 hg6
            have HBM : Hid (Below w7.heap.size w7 w6) := Lib.hid (below_ownM (bTrans HBN.out (bAlloc wc2 _)) (Nat.le_trans HSI.out (Grows.of_alloc wc2 _).size) (HON.out.alloc _) hg6)
            have HO6 := Lib.hid ho6
            clear ho6 hg6 HON HNW HBN HSI D0 X7
            go_wp2
            exact ⟨⟨i + 1, by omega, by go_num, ⟨v6, rfl, by rw [HG3.out]; exact HO6⟩, HBM⟩, by simp [intOf]; omega⟩
          | false =>
            have HG3 : Hid (grM un (G.take (i + 1)) = S) := Lib.hid (by rw [HGT.out, if_neg (of_decide_eq_false HGB.out.symm), List.append_nil])
            clear HGT HGB HGP D0 X7
            go_wp2
            exact ⟨⟨i + 1, by omega, by go_num, ⟨v, rfl, by rw [HG3.out]; exact HON⟩, HBN⟩, by simp [intOf]; omega⟩
        · obtain rfl : i = G.length := by omega
          rw [List.take_length] at HO
          have HGP := Lib.hid (Nat.le_trans (grM_len un G) hgl)
          obtain ⟨S, hS⟩ : ∃ S, grM un G = S := ⟨_, rfl⟩
          rw [hS] at HO HGP HALL
          have HB27 : Hid (Below w2.heap.size w2 wo) := Lib.hid (bTrans HB5.out (bTrans HB57.out HB.out))
          have HTK := Lib.hid (lm_taken Z Az cz h D AD cD (-25567) (un + 1) wo HZR.out (by omega) (by have := HZL.out; omega) (sl_bel HSZ7.out HB.out) hn HDD.out (sl_bel HSD.out HB27.out))
          have HTL : Hid ((tkM (gOn h D) Z).length ≤ 200000) := Lib.hid (by have := tkM_len (g := gOn h D) HZR.out; omega)
          obtain ⟨M, hM⟩ : ∃ M, tkM (gOn h D) Z = M := ⟨_, rfl⟩
          rw [hM] at HTK HTL HALL
          obtain ⟨K8, K0, K1, K2, K3, K4, K5, K6, K7⟩ := HKC.out _ HB27.out
          clear hS hM hlt HZR HSZ7 HSG
          go_wp2_with fail
          refine HTK.out.mono ?_
          rintro e wt ⟨⟨vt, rfl, hot⟩, hbt⟩
          have HOT := Lib.hid hot
          have HOS : Hid (OwnMo w7.heap.size v S wt) := Lib.hid (own_bel HO.out hbt)
          have HBT : Hid (Below w7.heap.size w7 wt) := Lib.hid (bTrans HB.out hbt)
          have hgs := HGP.out
          have hts := HTL.out
          clear hot hbt HTK HO HB K0 K1 K2 K3 K4 K5 K6 K7 K8
          go_wp2_with ((at_builtin; refine wpList_append_rows Mo.encM_len encMo_one rfl _ _ 59 rfl w7.heap.size wo.heap.size 70 _ 24 Tryz.underlying59 moInfo rfl (by decide) v vt S M rfl HOS.out rfl HOT.out (by omega) (by decide) HBT.out.size ?_))
          intro v8 w8 ho8 hg8
          have HB8 : Hid (Below w7.heap.size w7 w8) := Lib.hid (below_ownM HBT.out HBT.out.size HOS.out hg8)
          have HBW : Hid (Below w.heap.size w w8) := Lib.hid (bTrans HB2.out (bTrans HB5.out (bTrans HB57.out HB8.out)))
          have hRl : (S ++ M).length ≤ 1000000 := by rw [List.length_append]; omega
          obtain ⟨R, hR⟩ : ∃ R, S ++ M = R := ⟨_, rfl⟩
          rw [hR] at ho8 HALL hRl
          obtain ⟨A8, c8, e8, hsort⟩ := sort_ownM w7.heap.size v8 R w8 hRl ho8
          subst e8
          have HSO := Lib.hid hsort
          have HO8 := Lib.hid ho8
          clear hsort ho8 hg8 hR hgs hts HOS HOT HBT
          by_cases hbig : 4096 < R.length
          · have HF : Hid (movE T pe h D un = 5 ∧ movL T pe h D un = []) := Lib.hid (by
              have h1 : movE T pe h D un = 5 := by unfold movE; rw [if_neg (by rw [HU.out]; simp), if_neg (by rw [HCE.out]; simp), HALL.out, if_pos hbig]
              exact ⟨h1, by unfold movL; rw [h1]; rfl⟩)
            have hbig2 : (4096 : Int) < (R.length : Int) := by omega
            clear HSO HALL hbig
            go_wp2
            go_ret2
            exact MovR.of HF.out.2.symm HF.out.1.symm rfl (sl_nilM _) HBW.out
          · have HF : Hid (movE T pe h D un = 0 ∧ movL T pe h D un = ss Mo.lt R) := Lib.hid (by
              have h1 : movE T pe h D un = 0 := by unfold movE; rw [if_neg (by rw [HU.out]; simp), if_neg (by rw [HCE.out]; simp), HALL.out, if_neg hbig]
              exact ⟨h1, by unfold movL; rw [h1, if_pos rfl, HALL.out]⟩)
            have HLN : Hid ((ss Mo.lt R).length = R.length) := Lib.hid (ss_length R)
            have hbig2 : ¬ (4096 : Int) < (R.length : Int) := by omega
            clear HALL hbig
            go_wp2_with fail
            refine HSO.out.mono ?_
            rintro e w9 ⟨rfl, hs9, hg9⟩
            have HB9 : Hid (Below w.heap.size w w9) := Lib.hid (bTrans HB2.out (bTrans HB5.out (bTrans HB57.out (below_ownM HB8.out HB8.out.size HO8.out hg9))))
            have HS9 := Lib.hid hs9
            clear hs9 hg9 HSO HO8
            go_wp2
            go_ret2
            exact MovR.of HF.out.2.symm HF.out.1.symm (by rw [HLN.out]; rfl) HS9.out HB9.out
    · have HF : Hid (movE T pe h D un = ce ∧ movL T pe h D un = []) := Lib.hid (by
        have h1 : movE T pe h D un = ce := by unfold movE; rw [if_neg (by rw [HU.out]; simp), HCE.out, if_pos h0]
        exact ⟨h1, by unfold movL; rw [h1, if_neg h0]⟩)
      have HBW : Hid (Below w.heap.size w w3) := Lib.hid (bTrans HB2.out HB3.out)
      have hne : (ce != 0) = true := bne_iff_ne.2 h0
      clear h0
      go_wp2
      go_ret2
      exact MovR.of HF.out.2.symm HF.out.1.symm rfl (sl_nilM _) HBW.out
  · have hc' : calB un = false := by simpa using hcu
    have hwd := (wd_cal un).2 hc'
    have HF : Hid (movE T pe h D un = 15 ∧ movL T pe h D un = []) := Lib.hid (by
      have h1 : movE T pe h D un = 15 := by unfold movE; rw [if_pos (show calU un = false from hc')]
      exact ⟨h1, by unfold movL; rw [h1]; rfl⟩)
    rw [hwd]
    clear hcu hwd hc'
    go_wp2
    go_ret2
    exact MovR.of HF.out.2.symm HF.out.1.symm rfl (sl_nilM _) HB2.out
end Go.Proofs.YtmngghglcgmkeaaGreatDoor
