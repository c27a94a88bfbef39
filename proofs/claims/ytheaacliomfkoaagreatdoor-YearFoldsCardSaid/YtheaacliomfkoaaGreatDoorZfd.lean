/- Out of: Week. -/
import Derived.Test.YtheaacliomfkoaaGreatDoorZfa
import Derived.Test.YtheaacliomfkoaaGreatDoorZfc
import Derived.Deep.Cut
import Derived.Deep.CutRange
import Derived.IntWalk
import Derived.Lib.AtoiErrMem
import Derived.Lib.ConvBytes
/- Merged from: Wk1 Wk2 Wk3. -/
/- A week's text, in plain lists of bytes. -/
namespace Go.Proofs.YtheaacliomfkoaaGreatDoor

/-- Pieces of two texts, one behind the other. -/
theorem pieces_append (c : UInt8) : ∀ (x y : List UInt8), ∃ I z h t, pieces c x = I ++ [z] ∧ pieces c y = h :: t ∧ pieces c (x ++ y) = I ++ (z ++ h) :: t
  | [], y => by
    match hy : pieces c y with
    | [] => exact absurd hy (pieces_ne c y)
    | h :: t => exact ⟨[], [], h, t, rfl, rfl, rfl⟩
  | b :: x, y => by
    obtain ⟨I, z, h, t, h1, h2, h3⟩ := pieces_append c x y
    by_cases hb : b = c
    · subst hb
      refine ⟨[] :: I, z, h, t, ?_, h2, ?_⟩
      · show pieces b (b :: x) = _; unfold pieces; rw [if_pos rfl, h1]; rfl
      · show pieces b (b :: (x ++ y)) = _; unfold pieces; rw [if_pos rfl, h3]; rfl
    · cases I with
      | nil =>
        refine ⟨[], b :: z, h, t, ?_, h2, ?_⟩
        · unfold pieces; rw [if_neg hb, h1]; rfl
        · show pieces c (b :: (x ++ y)) = _; unfold pieces; rw [if_neg hb, h3]; rfl
      | cons i I =>
        refine ⟨(b :: i) :: I, z, h, t, ?_, h2, ?_⟩
        · unfold pieces; rw [if_neg hb, h1]; rfl
        · show pieces c (b :: (x ++ y)) = _; unfold pieces; rw [if_neg hb, h3]; rfl
theorem pieces_one {c b : UInt8} : pieces c [b] = if b = c then [[], []] else [[b]] := by
  unfold pieces
  split <;> rfl
theorem pieces_snoc_sep {c : UInt8} {x : List UInt8} : pieces c (x ++ [c]) = pieces c x ++ [[]] := by
  obtain ⟨I, z, h, t, h1, h2, h3⟩ := pieces_append c x [c]
  rw [pieces_one, if_pos rfl] at h2
  cases h2
  rw [h3, h1]; simp
theorem pieces_snoc {c b : UInt8} {x : List UInt8} {I : List (List UInt8)} {z : List UInt8} (hx : pieces c x = I ++ [z]) (hb : b ≠ c) : pieces c (x ++ [b]) = I ++ [z ++ [b]] := by
  obtain ⟨I', z', h, t, h1, h2, h3⟩ := pieces_append c x [b]
  rw [pieces_one, if_neg hb] at h2
  cases h2
  rw [hx] at h1
  have e := List.append_inj' h1 rfl
  obtain ⟨rfl, e2⟩ := e
  cases e2
  rw [h3]
/-- A byte that is none of the cuts is in a piece. -/
theorem pieces_mem {c b : UInt8} : ∀ {l : List UInt8}, b ∈ l → b ≠ c → ∃ p ∈ pieces c l, b ∈ p := by
  intro l hb hne
  obtain ⟨x, y, rfl⟩ := List.append_of_mem hb
  obtain ⟨I, z, h, t, h1, h2, h3⟩ := pieces_append c x (b :: y)
  refine ⟨z ++ h, by rw [h3]; simp, ?_⟩
  have : b ∈ h := by
    unfold pieces at h2
    rw [if_neg hne] at h2
    split at h2
    · cases h2; simp
    · cases h2; simp
  simp [this]

theorem neat_ofW {x : UInt8} {r : List UInt8} (h : x ≠ 48) : neat (x :: r) = true := by
  unfold neat
  simp [h]
/-- A right week's numbers. -/
def weekV (l : List UInt8) : List Int := if weekE l = 0 then (pieces 32 l).map (fun w => (numL 0 w : Int)) else [0, 0, 0, 0, 0, 0, 0]
def okP (w : List UInt8) : Bool := neat w && w.all digC
theorem weekE_form {l : List UInt8} (h : ¬ (((pieces 32 l).all okP) = true ∧ (pieces 32 l).length = 7)) : weekE l = 3 := by unfold weekE; exact if_neg h
theorem weekE_right {l : List UInt8} (h1 : (pieces 32 l).all okP = true) (h2 : (pieces 32 l).length = 7) : weekE l = if ((pieces 32 l).all fun w => decide (numL 0 w ≤ 1440)) = true then 0 else 2 := by unfold weekE; exact if_pos ⟨h1, h2⟩
theorem week_bad {l : List UInt8} {p : List UInt8} (hp : p ∈ pieces 32 l) (h : okP p = false) : weekE l = 3 := weekE_form (fun ⟨h1, _⟩ => by have := List.all_eq_true.1 h1 p hp; rw [h] at this; cases this)
/-- What the loop holds behind k bytes. -/
structure Wk (l : List UInt8) (k : Nat) (I : List (List UInt8)) (z : List UInt8) : Prop where
  eq : pieces 32 (l.take k) = I ++ [z]
  ok : I.all okP = true
  dig : z.all digC = true
  nt : z = [] ∨ neat z = true
  len : I.length ≤ 6
theorem Wk.start (l : List UInt8) : Wk l 0 [] [] := ⟨rfl, rfl, rfl, .inl rfl, by simp⟩
theorem Wk.split {l : List UInt8} {k : Nat} {I : List (List UInt8)} {z : List UInt8} {b : UInt8} (h : Wk l k I z) (hb : l[k]? = some b) : ∃ h' t, pieces 32 (b :: l.drop (k + 1)) = h' :: t ∧ pieces 32 l = I ++ (z ++ h') :: t := by
  obtain ⟨hlt, hb'⟩ := List.getElem?_eq_some_iff.1 hb
  have hl : l = l.take k ++ b :: l.drop (k + 1) := by
    conv => lhs; rw [← List.take_append_drop k l]
    rw [List.drop_eq_getElem_cons hlt, hb']
  obtain ⟨I', z', h', t, h1, h2, h3⟩ := pieces_append 32 (l.take k) (b :: l.drop (k + 1))
  rw [h.eq] at h1
  obtain ⟨rfl, e2⟩ := List.append_inj' h1 rfl
  cases e2
  exact ⟨h', t, h2, by rw [← h3, ← hl]⟩
theorem Wk.sep {l : List UInt8} {k : Nat} {I : List (List UInt8)} {z : List UInt8} (h : Wk l k I z) (hb : l[k]? = some 32) (hz : z ≠ []) (hI : I.length < 6) : Wk l (k + 1) (I ++ [z]) [] := by
  refine ⟨?_, ?_, rfl, .inl rfl, by simp; omega⟩
  · rw [List.take_add_one, hb]
    show pieces 32 (l.take k ++ [32]) = _
    rw [pieces_snoc_sep, h.eq]
  · rw [List.all_append, h.ok]
    have : okP z = true := by unfold okP; rw [h.nt.resolve_left hz, h.dig]; rfl
    simp [this]
theorem Wk.more {l : List UInt8} {k : Nat} {I : List (List UInt8)} {z : List UInt8} {b : UInt8} (h : Wk l k I z) (hb : l[k]? = some b) (hd : digC b = true) (hz : z = [] ∨ z.head? ≠ some 48) : Wk l (k + 1) I (z ++ [b]) := by
  have hne : b ≠ 32 := by intro e; subst e; revert hd; decide
  refine ⟨?_, h.ok, ?_, .inr ?_, h.len⟩
  · rw [List.take_add_one, hb]
    exact pieces_snoc h.eq hne
  · rw [List.all_append, h.dig]; simp [hd]
  · match z, hz with
    | [], _ => rfl
    | x :: r, hz =>
      have : x ≠ 48 := by intro e; subst e; simp at hz
      exact neat_ofW this
theorem Wk.bad_sep {l : List UInt8} {k : Nat} {I : List (List UInt8)} (h : Wk l k I []) (hb : l[k]? = some 32) : weekE l = 3 := by
  obtain ⟨h', t, h1, h2⟩ := h.split hb
  unfold pieces at h1
  rw [if_pos rfl] at h1
  cases h1
  exact week_bad (p := []) (by rw [h2]; simp) rfl
theorem Wk.bad_many {l : List UInt8} {k : Nat} {I : List (List UInt8)} {z : List UInt8} (h : Wk l k I z) (hb : l[k]? = some 32) (hI : ¬ I.length < 6) : weekE l = 3 := by
  obtain ⟨h', t, h1, h2⟩ := h.split hb
  unfold pieces at h1
  rw [if_pos rfl] at h1
  cases h1
  refine weekE_form (fun ⟨_, h3⟩ => ?_)
  rw [h2, List.length_append, List.length_cons] at h3
  have := List.length_pos_iff.2 (pieces_ne 32 (l.drop (k + 1)))
  omega
theorem Wk.bad_byte {l : List UInt8} {k : Nat} {b : UInt8} (hb : l[k]? = some b) (hd : digC b = false) (hne : b ≠ 32) : weekE l = 3 := by
  obtain ⟨p, hp, hbp⟩ := pieces_mem (List.mem_of_getElem? hb) hne
  refine week_bad hp ?_
  have : p.all digC = false := by
    rw [← Bool.not_eq_true, List.all_eq_true]
    intro h; have := h b hbp; rw [hd] at this; cases this
  unfold okP; rw [this]; simp
theorem Wk.bad_nought {l : List UInt8} {k : Nat} {I : List (List UInt8)} {z : List UInt8} {b : UInt8} (h : Wk l k I z) (hb : l[k]? = some b) (hne : b ≠ 32) (hz : z ≠ []) (h48 : z.head? = some 48) : weekE l = 3 := by
  obtain ⟨h', t, h1, h2⟩ := h.split hb
  refine week_bad (p := z ++ h') (by rw [h2]; simp) ?_
  have hh : h' ≠ [] := by
    unfold pieces at h1
    rw [if_neg hne] at h1
    split at h1 <;> (cases h1; simp)
  match z, h', hz, hh with
  | x :: r, y :: s, _, _ =>
    have : x = 48 := by simpa using h48
    subst this
    unfold okP neat
    have : ¬ ((48 : UInt8) :: r ++ y :: s).length ≤ 1 := by simp
    rw [decide_eq_false this]
    simp
theorem Wk.bad_end {l : List UInt8} {I : List (List UInt8)} {z : List UInt8} (h : Wk l l.length I z) (hb : I.length ≠ 6 ∨ z = []) : weekE l = 3 := by
  have he := h.eq
  rw [List.take_length] at he
  rcases hb with hb | hb
  · refine weekE_form (fun ⟨_, h3⟩ => ?_)
    rw [he] at h3; simp at h3; omega
  · subst hb
    exact week_bad (p := []) (by rw [he]; simp) rfl
theorem Wk.fin {l : List UInt8} {I : List (List UInt8)} {z : List UInt8} (h : Wk l l.length I z) (hI : I.length = 6) (hz : z ≠ []) : pieces 32 l = I ++ [z] ∧ weekE l = if ((I ++ [z]).all fun w => decide (numL 0 w ≤ 1440)) = true then 0 else 2 := by
  have he := h.eq
  rw [List.take_length] at he
  refine ⟨he, ?_⟩
  rw [← he]
  refine weekE_right ?_ (by rw [he]; simp; omega)
  rw [he, List.all_append, h.ok]
  have : okP z = true := by unfold okP; rw [h.nt.resolve_left hz, h.dig]; rfl
  simp [this]
end Go.Proofs.YtheaacliomfkoaaGreatDoor

/- A week's text: the program's reading, walked. -/
namespace Go.Proofs.YtheaacliomfkoaaGreatDoor
open Go.RowKit Go.Sort

/-- Seven numbers as a value. -/
def w7 (f : Nat → Int) : Array Value := #[.int .i64 (f 0), .int .i64 (f 1), .int .i64 (f 2), .int .i64 (f 3), .int .i64 (f 4), .int .i64 (f 5), .int .i64 (f 6)]
def rightB (f : Nat → Int) : Bool := (List.range 7).all fun i => decide (0 ≤ f i ∧ f i ≤ 1440)
theorem w7_at (f : Nat → Int) (k : Nat) (hk : k < 7) (w : World) : (Instr.index 230 (.agg #[.int .i64 (f 0), .int .i64 (f 1), .int .i64 (f 2), .int .i64 (f 3), .int .i64 (f 4), .int .i64 (f 5), .int .i64 (f 6)]) (.int .i64 k)).run Tryz.prog w = .ok (.int .i64 (f k)) w := by
  have : k = 0 ∨ k = 1 ∨ k = 2 ∨ k = 3 ∨ k = 4 ∨ k = 5 ∨ k = 6 := by omega
  rcases this with rfl | rfl | rfl | rfl | rfl | rfl | rfl <;> (show Sem.run _ _ _ = _; kernel_rfl)
theorem right_bad {f : Nat → Int} {k : Nat} (hk : k < 7) (h : f k < 0 ∨ 1440 < f k) : rightB f = false := by
  rw [← Bool.not_eq_true]
  unfold rightB
  rw [List.all_eq_true]
  intro h2
  have := of_decide_eq_true (h2 k (List.mem_range.2 hk))
  omega
theorem right_good {f : Nat → Int} (h : ∀ i, i < 7 → 0 ≤ f i ∧ f i ≤ 1440) : rightB f = true := by
  unfold rightB
  rw [List.all_eq_true]
  intro i hi
  exact decide_eq_true (h i (List.mem_range.1 hi))

set_option maxHeartbeats 1000000 in
theorem wk_right (f : Nat → Int) (w : World) : Calls Tryz.prog 195 #[.agg (w7 f)] w fun e w' => e = .returned (.bool (rightB f)) ∧ Grows w w' := by
  have HIX := Lib.hid (w7_at f)
  unfold w7
  go_enter Tryz.func195, Tryz.ntmps195
  go_wp2
  have HG := Lib.hid (Grows.of_alloc w (.cells #[.int .i64 (f 0), .int .i64 (f 1), .int .i64 (f 2), .int .i64 (f 3), .int .i64 (f 4), .int .i64 (f 5), .int .i64 (f 6)] 230))
  go_loop [4, 6] (fun _ iv => ∃ k : Nat, k ≤ 7 ∧ iv = .int .i64 k ∧ Hid (∀ i, i < k → 0 ≤ f i ∧ f i ≤ 1440)) (fun _ iv => 7 - (intOf iv).toNat)
  case atStart => exact ⟨0, Nat.zero_le _, rfl, Lib.hid (fun i h => absurd h (by omega))⟩
  case round =>
    obtain ⟨k, hk, rfl, HP⟩ := hrel
    by_cases hlt : (k : Int) < 7
    · have hix := HIX.out k (by omega)
      obtain ⟨v, hv⟩ : ∃ v, f k = v := ⟨_, rfl⟩
      have HV := Lib.hid hv
      rw [hv] at hix
      clear hv
      by_cases h1 : v < 0
      · have HF := Lib.hid (right_bad (f := f) (k := k) (by omega) (by rw [HV.out]; omega))
        go_wp2
        go_ret
        exact ⟨ret_b HF.out.symm, HG.out⟩
      · by_cases h2 : 1440 < v
        · have HF := Lib.hid (right_bad (f := f) (k := k) (by omega) (by rw [HV.out]; omega))
          go_wp2
          go_ret
          exact ⟨ret_b HF.out.symm, HG.out⟩
        · have HN : Hid (∀ i, i < k + 1 → 0 ≤ f i ∧ f i ≤ 1440) := Lib.hid (fun i hi => by
            rcases Nat.lt_or_ge i k with h | h
            · exact HP.out i h
            · have : i = k := by omega
              subst this
              rw [HV.out]; omega)
          go_wp2
          go_round
          case rel => exact ⟨k + 1, by omega, by go_num, HN⟩
          case measure => simp [intOf]; omega
    · have hk7 : k = 7 := by omega
      have HF := Lib.hid (right_good (f := f) (fun i hi => HP.out i (by omega)))
      go_wp2
      go_ret
      exact ⟨ret_b HF.out.symm, HG.out⟩
end Go.Proofs.YtheaacliomfkoaaGreatDoor

/- A week's text: the program's Parse, walked. -/
namespace Go.Proofs.YtheaacliomfkoaaGreatDoor
open Go.RowKit Go.Sort

theorem w7_set (f : Nat → Int) {k : Nat} (hk : k < 7) (v : Int) : (w7 f).setIfInBounds k (.int .i64 v) = w7 (fun i => if i = k then v else f i) := by
  have : k = 0 ∨ k = 1 ∨ k = 2 ∨ k = 3 ∨ k = 4 ∨ k = 5 ∨ k = 6 := by omega
  rcases this with rfl | rfl | rfl | rfl | rfl | rfl | rfl <;> rfl
theorem w7_congr {f g : Nat → Int} (h : ∀ i, i < 7 → f i = g i) : w7 f = w7 g := by
  unfold w7
  rw [h 0 (by omega), h 1 (by omega), h 2 (by omega), h 3 (by omega), h 4 (by omega), h 5 (by omega), h 6 (by omega)]
theorem w7_get (f : Nat → Int) {k : Nat} (hk : k < 7) : (w7 f)[k]? = some (.int .i64 (f k)) := by
  have : k = 0 ∨ k = 1 ∨ k = 2 ∨ k = 3 ∨ k = 4 ∨ k = 5 ∨ k = 6 := by omega
  rcases this with rfl | rfl | rfl | rfl | rfl | rfl | rfl <;> rfl
/-- The week's numbers behind some pieces. -/
def wf (P : List (List UInt8)) (i : Nat) : Int := (satN (P.getD i []) 1440 : Nat)
theorem wf_bd (P : List (List UInt8)) (i : Nat) : 0 ≤ wf P i ∧ wf P i ≤ 1441 := by
  have : satN (P.getD i []) 1440 ≤ 1441 := Nat.min_le_right _ _
  unfold wf; omega
theorem wf_sep (P : List (List UInt8)) (i : Nat) : wf (P ++ [[]]) i = wf P i := by
  unfold wf
  rw [List.getD_eq_getElem?_getD, List.getD_eq_getElem?_getD, List.getElem?_append]
  split
  · rfl
  · rename_i h
    rw [List.getElem?_eq_none (by omega : P.length ≤ i)]
    by_cases h0 : i - P.length = 0
    · rw [h0]; rfl
    · rw [List.getElem?_eq_none (by simp; omega)]
theorem wf_more (I : List (List UInt8)) (z : List UInt8) (b : UInt8) (c : Int) (hc : c = (b.toNat : Int)) (h48 : 48 ≤ c) (i : Nat) : (if i = I.length then min (10 * wf (I ++ [z]) I.length + (c - 48)) 1441 else wf (I ++ [z]) i) = wf (I ++ [z ++ [b]]) i := by
  have e : ∀ (y : List UInt8), wf (I ++ [y]) I.length = (satN y 1440 : Nat) := by
    intro y; unfold wf; rw [List.getD_eq_getElem?_getD, List.getElem?_append_right (Nat.le_refl _), Nat.sub_self]; rfl
  by_cases h : i = I.length
  · subst h
    rw [if_pos rfl, e, e]
    unfold satN
    rw [numL_append]
    show _ = ((min (10 * numL 0 z + (b.toNat - 48)) (1440 + 1) : Nat) : Int)
    omega
  · rw [if_neg h]
    unfold wf
    rw [List.getD_eq_getElem?_getD, List.getD_eq_getElem?_getD, List.getElem?_append, List.getElem?_append]
    split
    · rfl
    · rw [List.getElem?_eq_none (by simp; omega), List.getElem?_eq_none (by simp; omega)]
/-- What a reading of a week answers. -/
def weekR (l : List UInt8) : Value := .tuple #[.agg (w7 (fun i => (weekV l).getD i 0)), .int .i64 (weekE l)]
def zero7 : Nat → Int := fun _ => 0
theorem weekR_bad {l : List UInt8} {e : Int} (h : weekE l = e) (h0 : e ≠ 0) : Ending.returned (.tuple #[.agg (w7 zero7), .int .i64 e]) = .returned (weekR l) := by
  unfold weekR weekV
  rw [h, if_neg h0]
  rfl
theorem right_wf {P : List (List UInt8)} (hP : P.length = 7) : rightB (wf P) = P.all fun w => decide (numL 0 w ≤ 1440) := by
  rw [Bool.eq_iff_iff]
  unfold rightB
  rw [List.all_eq_true, List.all_eq_true]
  constructor
  · intro h w hw
    obtain ⟨i, hi⟩ := List.getElem?_of_mem hw
    have hlt := (List.getElem?_eq_some_iff.1 hi).1
    have h1 := of_decide_eq_true (h i (List.mem_range.2 (by omega)))
    have e : wf P i = (satN w 1440 : Nat) := by unfold wf; rw [List.getD_eq_getElem?_getD, hi]; rfl
    rw [e] at h1
    unfold satN at h1
    exact decide_eq_true (by omega)
  · intro h i hi
    have hi7 := List.mem_range.1 hi
    obtain ⟨w, hw⟩ : ∃ w, P[i]? = some w := ⟨_, List.getElem?_eq_getElem (by omega)⟩
    have h1 := of_decide_eq_true (h w (List.mem_of_getElem? hw))
    have e : wf P i = (satN w 1440 : Nat) := by unfold wf; rw [List.getD_eq_getElem?_getD, hw]; rfl
    rw [e]
    unfold satN
    exact decide_eq_true (by omega)
theorem weekR_ok {l : List UInt8} {P : List (List UInt8)} (hp : pieces 32 l = P) (hP : P.length = 7) (h : weekE l = 0) (hr : (P.all fun w => decide (numL 0 w ≤ 1440)) = true) : Ending.returned (.tuple #[.agg (w7 (wf P)), .int .i64 0]) = .returned (weekR l) := by
  unfold weekR weekV
  rw [if_pos h, h, hp]
  congr 3
  congr 1
  apply congrArg Value.agg
  apply w7_congr
  intro i hi
  obtain ⟨w, hw⟩ : ∃ w, P[i]? = some w := ⟨_, List.getElem?_eq_getElem (by omega)⟩
  have h1 := of_decide_eq_true (List.all_eq_true.1 hr w (List.mem_of_getElem? hw))
  have e : wf P i = (satN w 1440 : Nat) := by unfold wf; rw [List.getD_eq_getElem?_getD, hw]; rfl
  rw [e, List.getD_eq_getElem?_getD, List.getElem?_map, hw]
  unfold satN
  show ((min (numL 0 w) (1440 + 1) : Nat) : Int) = ((numL 0 w : Nat) : Int)
  omega

/-- What lies in memory: the result, the week, the text's bytes. -/
structure WM (w wr : World) (rb wb bb : Nat) (s : ByteArray) (P : List (List UInt8)) : Prop where
  res : Bk rb 230 (w7 zero7) wr
  wk : Bk wb 230 (w7 (wf P)) wr
  by_ : ∀ j, j < s.size → wr.cell? ⟨bb, j, none⟩ = some (.int .u8 (byteAt s j))
  bel : Below w.heap.size w wr
theorem belowW {a b : World} {B : Nat} (h : Below a.heap.size a b) (hB : B ≤ a.heap.size) : Below B a b := h.mono hB
theorem head_48 {b : UInt8} {c : Int} (hc : c = (b.toNat : Int)) : (([] : List UInt8) ++ [b]).head? = some 48 ↔ c = 48 := by
  constructor
  · intro h
    have h1 : b = 48 := Option.some.inj h
    rw [hc, h1]; rfl
  · intro h
    show some b = some 48
    congr 1
    exact UInt8.toNat_inj.1 (by have e : (48 : UInt8).toNat = 48 := rfl; omega)
theorem wf_nil : w7 (wf [[]]) = w7 zero7 := by
  apply w7_congr
  intro i _
  have e : ([[]] : List (List UInt8)).getD i [] = [] := by cases i <;> rfl
  unfold wf zero7
  rw [e, satN_nil]; rfl
theorem WM.start0 (w : World) (s : ByteArray) (e : TypeId) : WM w (Lib.bytesWorld ((w.alloc (.cells (w7 zero7) 230)).alloc (.cells (w7 zero7) 230)) e s) w.heap.size (w.heap.size + 1) (w.heap.size + 1 + 1) s [[]] := by
  have s1 : (w.alloc (.cells (w7 zero7) 230)).heap.size = w.heap.size + 1 := by simp
  have s2 : ((w.alloc (.cells (w7 zero7) 230)).alloc (.cells (w7 zero7) 230)).heap.size = w.heap.size + 1 + 1 := by simp
  have b1 : Bk w.heap.size 230 (w7 zero7) (w.alloc (.cells (w7 zero7) 230)) := Bk.new _ _ _
  have b2 := b1.grows (.of_alloc _ (.cells (w7 zero7) 230))
  have b3 : Bk (w.heap.size + 1) 230 (w7 zero7) ((w.alloc (.cells (w7 zero7) 230)).alloc (.cells (w7 zero7) 230)) := by
    have := Bk.new (w.alloc (.cells (w7 zero7) 230)) 230 (w7 zero7)
    rwa [s1] at this
  refine ⟨?_, ?_, ?_, ?_⟩
  · unfold Bk at *; rw [Lib.bytesWorld_at_old _ _ _ _ (by rw [s2]; omega)]; exact b2
  · rw [wf_nil]; unfold Bk at *; rw [Lib.bytesWorld_at_old _ _ _ _ (by rw [s2]; omega)]; exact b3
  · intro j hj
    have := Lib.bytesWorld_cell ((w.alloc (.cells (w7 zero7) 230)).alloc (.cells (w7 zero7) 230)) e s j hj
    rw [s2] at this
    exact this
  · exact bTrans (bTrans (bAlloc w _) (bAlloc _ _)) (Lib.bytesWorld_below _ _ _)
theorem WM.start (w : World) (s : ByteArray) (e : TypeId) {wz : World} {rb wb bb : Nat} (hwz : Lib.bytesWorld ((w.alloc (.cells #[.int .i64 0, .int .i64 0, .int .i64 0, .int .i64 0, .int .i64 0, .int .i64 0, .int .i64 0] 230)).alloc (.cells #[.int .i64 0, .int .i64 0, .int .i64 0, .int .i64 0, .int .i64 0, .int .i64 0, .int .i64 0] 230)) e s = wz) (h1 : w.heap.size = rb) (h2 : w.heap.size + 1 = wb) (h3 : w.heap.size + 1 + 1 = bb) : WM w wz rb wb bb s [[]] := by
  subst hwz; subst h1; subst h2; subst h3
  exact WM.start0 w s e
theorem WM.sep {w wr : World} {rb wb bb : Nat} {s : ByteArray} {P : List (List UInt8)} (h : WM w wr rb wb bb s P) : WM w wr rb wb bb s (P ++ [[]]) := ⟨h.res, by rw [w7_congr (fun i _ => wf_sep P i)]; exact h.wk, h.by_, h.bel⟩
theorem WM.more {w wr : World} {rb wb bb : Nat} {s : ByteArray} {I : List (List UInt8)} {z : List UInt8} {b : UInt8} {c : Int} (h : WM w wr rb wb bb s (I ++ [z])) (hI : I.length < 7) (hne : rb ≠ wb ∧ bb ≠ wb ∧ w.heap.size ≤ wb) (hc : c = (b.toNat : Int)) (h48 : 48 ≤ c) {v : Int} (hv : v = min (10 * wf (I ++ [z]) I.length + (c - 48)) 1441) :
    WM w (wr.setCell ⟨wb, I.length, none⟩ (.int .i64 v)) rb wb bb s (I ++ [z ++ [b]]) := by
  refine ⟨h.res.grownBy (r := some wb) (gSet _ _ _) (by have := hne.1; simp; omega), ?_, ?_, h.bel.setCell (p := ⟨wb, I.length, none⟩) hne.2.2 _⟩
  · have := h.wk.set_ I.length (.int .i64 v)
    have e := w7_congr (f := fun i => if i = I.length then v else wf (I ++ [z]) i) (g := wf (I ++ [z ++ [b]])) (fun i _ => by rw [hv]; exact wf_more I z b c hc h48 i)
    rw [w7_set _ hI, e] at this
    exact this
  · intro j hj
    rw [← h.by_ j hj]
    exact World.cell?_of_block (w := wr) (Below.heap_setCell _ _ _ _ (by have := hne.2.1; simpa using this))

set_option maxHeartbeats 4000000 in
set_option maxRecDepth 10000 in
theorem wk_Parse (s : ByteArray) (w : World) (hs : s.size ≤ 1000000) : Calls Tryz.prog 180 #[.string s] w fun e w' => e = .returned (weekR (ls s)) ∧ Below w.heap.size w w' := by
  have hcv : ∀ W, (convert 9 152 (.string s)).run Tryz.prog W = .ok (.slice (some ⟨W.heap.size, 0, none⟩) s.size (grownCap W s.size 0 5)) (Lib.bytesWorld W 5 s) := fun W => Lib.run_convert_string_bytes W 9 152 5 s Tryz.underlying9 Tryz.underlying152 Tryz.underlying5
  go_enter Tryz.func180, Tryz.ntmps180
  go_wp2
  obtain ⟨wz, hwz⟩ : ∃ x, Lib.bytesWorld ((w.alloc (.cells #[.int .i64 0, .int .i64 0, .int .i64 0, .int .i64 0, .int .i64 0, .int .i64 0, .int .i64 0] 230)).alloc (.cells #[.int .i64 0, .int .i64 0, .int .i64 0, .int .i64 0, .int .i64 0, .int .i64 0, .int .i64 0] 230)) 5 s = x := ⟨_, rfl⟩
  obtain ⟨cap, hcap⟩ : ∃ x, grownCap ((w.alloc (.cells #[.int .i64 0, .int .i64 0, .int .i64 0, .int .i64 0, .int .i64 0, .int .i64 0, .int .i64 0] 230)).alloc (.cells #[.int .i64 0, .int .i64 0, .int .i64 0, .int .i64 0, .int .i64 0, .int .i64 0, .int .i64 0] 230)) s.size 0 5 = x := ⟨_, rfl⟩
  rw [hwz, hcap]
  clear hcap hcv
  obtain ⟨bb, hbb⟩ : ∃ x, w.heap.size + 1 + 1 = x := ⟨_, rfl⟩
  obtain ⟨wb, hwb⟩ : ∃ x, w.heap.size + 1 = x := ⟨_, rfl⟩
  obtain ⟨rb, hrb⟩ : ∃ x, w.heap.size = x := ⟨_, rfl⟩
  have HM := Lib.hid (WM.start w s 5 hwz hrb hwb hbb)
  have HNE : Hid (rb ≠ wb ∧ bb ≠ wb ∧ w.heap.size ≤ wb) := Lib.hid (by omega)
  have HRB : Hid (w.heap.size ≤ rb) := Lib.hid (by omega)
  have HRW : Hid (rb ≠ bb) := Lib.hid (by omega)
  rw [hbb, hwb, hrb]
  clear hbb hwb hrb hwz
  go_loopw [5, 6, 7, 9, 13] (fun av dv fv _ iv wr => ∃ (k : Nat) (I : List (List UInt8)) (z : List UInt8) (c0 : Int), k ≤ s.size ∧ iv = .int .i64 k ∧ av = .int .i64 I.length ∧ dv = .int .i64 z.length ∧ fv = .int .u8 c0 ∧ Hid (z ≠ [] → (z.head? = some 48 ↔ c0 = 48)) ∧ Hid (Wk (ls s) k I z) ∧ Hid (WM w wr rb wb bb s (I ++ [z]))) (fun _ _ _ _ iv _ => s.size - (intOf iv).toNat)
  case atStart => exact ⟨0, [], [], 0, Nat.zero_le _, rfl, rfl, rfl, rfl, Lib.hid (fun h => absurd rfl h), Lib.hid (Wk.start _), HM⟩
  case round =>
    obtain ⟨k, I, z, c0, hk, rfl, rfl, rfl, rfl, HF0, HK, HMM⟩ := hrel
    by_cases hlt : k < s.size
    · have B0 := HMM.out.by_ k hlt
      have hbd := byteAt_bd s k
      obtain ⟨b, hb, hcb⟩ := byte_some hlt
      have HB := Lib.hid hb
      have HC := Lib.hid hcb
      have hI := HK.out.len
      have hzl : z.length ≤ 1000000 := by
        have h1 := (pieces_le 32 ((ls s).take k)).2 z (by rw [HK.out.eq]; simp)
        have h2 := ls_len s
        rw [List.length_take] at h1
        omega
      clear hb hcb
      generalize byteAt s k = c at *
      by_cases h32 : c = 32
      · have b32 : (c == 32) = true := beq_iff_eq.2 h32
        have HB32 : Hid ((ls s)[k]? = some 32) := Lib.hid (by rw [HB.out]; have := HC.out; have e : (32 : UInt8).toNat = 32 := rfl; congr 1; exact UInt8.toNat_inj.1 (by omega))
        have hc48 : c < 48 := by omega
        clear h32
        by_cases hz : z = []
        · have hz0 : ¬ (0 : Int) < (z.length : Int) := by rw [hz]; simp
          have HF := Lib.hid (weekR_bad (l := ls s) (e := 3) (Wk.bad_sep (by rw [← hz]; exact HK.out) HB32.out) (by decide))
          clear hz
          have hres := HMM.out.res
          have R0 : wr.cell? ⟨rb, 0, none⟩ = some (.int .i64 0) := hres.cell 0
          have R1 : wr.cell? ⟨rb, 1, none⟩ = some (.int .i64 0) := hres.cell 1
          have R2 : wr.cell? ⟨rb, 2, none⟩ = some (.int .i64 0) := hres.cell 2
          have R3 : wr.cell? ⟨rb, 3, none⟩ = some (.int .i64 0) := hres.cell 3
          have R4 : wr.cell? ⟨rb, 4, none⟩ = some (.int .i64 0) := hres.cell 4
          have R5 : wr.cell? ⟨rb, 5, none⟩ = some (.int .i64 0) := hres.cell 5
          have R6 : wr.cell? ⟨rb, 6, none⟩ = some (.int .i64 0) := hres.cell 6
          have G0 : wr.frozen? ⟨rb, 0, none⟩ = false := hres.frozen 0
          have G1 : wr.frozen? ⟨rb, 1, none⟩ = false := hres.frozen 1
          have G2 : wr.frozen? ⟨rb, 2, none⟩ = false := hres.frozen 2
          have G3 : wr.frozen? ⟨rb, 3, none⟩ = false := hres.frozen 3
          have G4 : wr.frozen? ⟨rb, 4, none⟩ = false := hres.frozen 4
          have G5 : wr.frozen? ⟨rb, 5, none⟩ = false := hres.frozen 5
          have G6 : wr.frozen? ⟨rb, 6, none⟩ = false := hres.frozen 6
          have HRES := Lib.hid hres
          clear hres
          go_wp2
          have hz := (((((((HRES.out.set_ 0 (.int .i64 (0))).set_ 1 (.int .i64 (0))).set_ 2 (.int .i64 (0))).set_ 3 (.int .i64 (0))).set_ 4 (.int .i64 (0))).set_ 5 (.int .i64 (0))).set_ 6 (.int .i64 (0)))
          have gz := (((((((HMM.out.bel.setCell (p := ⟨rb, 0, none⟩) HRB.out (.int .i64 (0))).setCell (p := ⟨rb, 1, none⟩) HRB.out (.int .i64 (0))).setCell (p := ⟨rb, 2, none⟩) HRB.out (.int .i64 (0))).setCell (p := ⟨rb, 3, none⟩) HRB.out (.int .i64 (0))).setCell (p := ⟨rb, 4, none⟩) HRB.out (.int .i64 (0))).setCell (p := ⟨rb, 5, none⟩) HRB.out (.int .i64 (0))).setCell (p := ⟨rb, 6, none⟩) HRB.out (.int .i64 (0)))
          clear R0 G0 R1 G1 R2 G2 R3 G3 R4 G4 R5 G5 R6 G6
          generalize (((((((wr.setCell ⟨rb, 0, none⟩ (.int .i64 (0))).setCell ⟨rb, 1, none⟩ (.int .i64 (0))).setCell ⟨rb, 2, none⟩ (.int .i64 (0))).setCell ⟨rb, 3, none⟩ (.int .i64 (0))).setCell ⟨rb, 4, none⟩ (.int .i64 (0))).setCell ⟨rb, 5, none⟩ (.int .i64 (0))).setCell ⟨rb, 6, none⟩ (.int .i64 (0))) = wy at *
          have z0 : wy.cell? ⟨rb, 0, none⟩ = some (.int .i64 (0)) := hz.cell 0
          have z1 : wy.cell? ⟨rb, 1, none⟩ = some (.int .i64 (0)) := hz.cell 1
          have z2 : wy.cell? ⟨rb, 2, none⟩ = some (.int .i64 (0)) := hz.cell 2
          have z3 : wy.cell? ⟨rb, 3, none⟩ = some (.int .i64 (0)) := hz.cell 3
          have z4 : wy.cell? ⟨rb, 4, none⟩ = some (.int .i64 (0)) := hz.cell 4
          have z5 : wy.cell? ⟨rb, 5, none⟩ = some (.int .i64 (0)) := hz.cell 5
          have z6 : wy.cell? ⟨rb, 6, none⟩ = some (.int .i64 (0)) := hz.cell 6
          exact bodyPost_ret (v := .tuple #[.agg #[.int .i64 (0), .int .i64 (0), .int .i64 (0), .int .i64 (0), .int .i64 (0), .int .i64 (0), .int .i64 (0)], .int .i64 3]) (by simp [results, Tryz.results180, go_sem, z0, z1, z2, z3, z4, z5, z6]) rfl ⟨HF.out, gz⟩
        · have hz0 : (0 : Int) < (z.length : Int) := by have := List.length_pos_iff.2 hz; omega
          by_cases h6 : (I.length : Int) < 6
          · have HK2 := Lib.hid (HK.out.sep HB32.out hz (by omega))
            have HM2 := Lib.hid HMM.out.sep
            clear hz
            go_wp2
            refine ⟨⟨k + 1, I ++ [z], [], c0, by omega, by go_num, by simp, rfl, rfl, Lib.hid (fun h => absurd rfl h), HK2, HM2⟩, by simp [intOf]; omega⟩
          · have HF := Lib.hid (weekR_bad (l := ls s) (e := 3) (HK.out.bad_many HB32.out (by omega)) (by decide))
            clear hz
            have hres := HMM.out.res
            have R0 : wr.cell? ⟨rb, 0, none⟩ = some (.int .i64 0) := hres.cell 0
            have R1 : wr.cell? ⟨rb, 1, none⟩ = some (.int .i64 0) := hres.cell 1
            have R2 : wr.cell? ⟨rb, 2, none⟩ = some (.int .i64 0) := hres.cell 2
            have R3 : wr.cell? ⟨rb, 3, none⟩ = some (.int .i64 0) := hres.cell 3
            have R4 : wr.cell? ⟨rb, 4, none⟩ = some (.int .i64 0) := hres.cell 4
            have R5 : wr.cell? ⟨rb, 5, none⟩ = some (.int .i64 0) := hres.cell 5
            have R6 : wr.cell? ⟨rb, 6, none⟩ = some (.int .i64 0) := hres.cell 6
            have G0 : wr.frozen? ⟨rb, 0, none⟩ = false := hres.frozen 0
            have G1 : wr.frozen? ⟨rb, 1, none⟩ = false := hres.frozen 1
            have G2 : wr.frozen? ⟨rb, 2, none⟩ = false := hres.frozen 2
            have G3 : wr.frozen? ⟨rb, 3, none⟩ = false := hres.frozen 3
            have G4 : wr.frozen? ⟨rb, 4, none⟩ = false := hres.frozen 4
            have G5 : wr.frozen? ⟨rb, 5, none⟩ = false := hres.frozen 5
            have G6 : wr.frozen? ⟨rb, 6, none⟩ = false := hres.frozen 6
            have HRES := Lib.hid hres
            clear hres
            go_wp2
            have hz := (((((((HRES.out.set_ 0 (.int .i64 (0))).set_ 1 (.int .i64 (0))).set_ 2 (.int .i64 (0))).set_ 3 (.int .i64 (0))).set_ 4 (.int .i64 (0))).set_ 5 (.int .i64 (0))).set_ 6 (.int .i64 (0)))
            have gz := (((((((HMM.out.bel.setCell (p := ⟨rb, 0, none⟩) HRB.out (.int .i64 (0))).setCell (p := ⟨rb, 1, none⟩) HRB.out (.int .i64 (0))).setCell (p := ⟨rb, 2, none⟩) HRB.out (.int .i64 (0))).setCell (p := ⟨rb, 3, none⟩) HRB.out (.int .i64 (0))).setCell (p := ⟨rb, 4, none⟩) HRB.out (.int .i64 (0))).setCell (p := ⟨rb, 5, none⟩) HRB.out (.int .i64 (0))).setCell (p := ⟨rb, 6, none⟩) HRB.out (.int .i64 (0)))
            clear R0 G0 R1 G1 R2 G2 R3 G3 R4 G4 R5 G5 R6 G6
            generalize (((((((wr.setCell ⟨rb, 0, none⟩ (.int .i64 (0))).setCell ⟨rb, 1, none⟩ (.int .i64 (0))).setCell ⟨rb, 2, none⟩ (.int .i64 (0))).setCell ⟨rb, 3, none⟩ (.int .i64 (0))).setCell ⟨rb, 4, none⟩ (.int .i64 (0))).setCell ⟨rb, 5, none⟩ (.int .i64 (0))).setCell ⟨rb, 6, none⟩ (.int .i64 (0))) = wy at *
            have z0 : wy.cell? ⟨rb, 0, none⟩ = some (.int .i64 (0)) := hz.cell 0
            have z1 : wy.cell? ⟨rb, 1, none⟩ = some (.int .i64 (0)) := hz.cell 1
            have z2 : wy.cell? ⟨rb, 2, none⟩ = some (.int .i64 (0)) := hz.cell 2
            have z3 : wy.cell? ⟨rb, 3, none⟩ = some (.int .i64 (0)) := hz.cell 3
            have z4 : wy.cell? ⟨rb, 4, none⟩ = some (.int .i64 (0)) := hz.cell 4
            have z5 : wy.cell? ⟨rb, 5, none⟩ = some (.int .i64 (0)) := hz.cell 5
            have z6 : wy.cell? ⟨rb, 6, none⟩ = some (.int .i64 (0)) := hz.cell 6
            exact bodyPost_ret (v := .tuple #[.agg #[.int .i64 (0), .int .i64 (0), .int .i64 (0), .int .i64 (0), .int .i64 (0), .int .i64 (0), .int .i64 (0)], .int .i64 3]) (by simp [results, Tryz.results180, go_sem, z0, z1, z2, z3, z4, z5, z6]) rfl ⟨HF.out, gz⟩
      have b32 : (c == 32) = false := beq_eq_false_iff_ne.2 h32
      have HNB : Hid (b ≠ 32) := Lib.hid (fun e => h32 (by rw [HC.out, e]; rfl))
      clear h32
      by_cases h48 : c < 48
      · have HF := Lib.hid (weekR_bad (l := ls s) (e := 3) (Wk.bad_byte HB.out (by have := HC.out; unfold digC; simp; omega) HNB.out) (by decide))
        have hres := HMM.out.res
        have R0 : wr.cell? ⟨rb, 0, none⟩ = some (.int .i64 0) := hres.cell 0
        have R1 : wr.cell? ⟨rb, 1, none⟩ = some (.int .i64 0) := hres.cell 1
        have R2 : wr.cell? ⟨rb, 2, none⟩ = some (.int .i64 0) := hres.cell 2
        have R3 : wr.cell? ⟨rb, 3, none⟩ = some (.int .i64 0) := hres.cell 3
        have R4 : wr.cell? ⟨rb, 4, none⟩ = some (.int .i64 0) := hres.cell 4
        have R5 : wr.cell? ⟨rb, 5, none⟩ = some (.int .i64 0) := hres.cell 5
        have R6 : wr.cell? ⟨rb, 6, none⟩ = some (.int .i64 0) := hres.cell 6
        have G0 : wr.frozen? ⟨rb, 0, none⟩ = false := hres.frozen 0
        have G1 : wr.frozen? ⟨rb, 1, none⟩ = false := hres.frozen 1
        have G2 : wr.frozen? ⟨rb, 2, none⟩ = false := hres.frozen 2
        have G3 : wr.frozen? ⟨rb, 3, none⟩ = false := hres.frozen 3
        have G4 : wr.frozen? ⟨rb, 4, none⟩ = false := hres.frozen 4
        have G5 : wr.frozen? ⟨rb, 5, none⟩ = false := hres.frozen 5
        have G6 : wr.frozen? ⟨rb, 6, none⟩ = false := hres.frozen 6
        have HRES := Lib.hid hres
        clear hres
        go_wp2
        have hz := (((((((HRES.out.set_ 0 (.int .i64 (0))).set_ 1 (.int .i64 (0))).set_ 2 (.int .i64 (0))).set_ 3 (.int .i64 (0))).set_ 4 (.int .i64 (0))).set_ 5 (.int .i64 (0))).set_ 6 (.int .i64 (0)))
        have gz := (((((((HMM.out.bel.setCell (p := ⟨rb, 0, none⟩) HRB.out (.int .i64 (0))).setCell (p := ⟨rb, 1, none⟩) HRB.out (.int .i64 (0))).setCell (p := ⟨rb, 2, none⟩) HRB.out (.int .i64 (0))).setCell (p := ⟨rb, 3, none⟩) HRB.out (.int .i64 (0))).setCell (p := ⟨rb, 4, none⟩) HRB.out (.int .i64 (0))).setCell (p := ⟨rb, 5, none⟩) HRB.out (.int .i64 (0))).setCell (p := ⟨rb, 6, none⟩) HRB.out (.int .i64 (0)))
        clear R0 G0 R1 G1 R2 G2 R3 G3 R4 G4 R5 G5 R6 G6
        generalize (((((((wr.setCell ⟨rb, 0, none⟩ (.int .i64 (0))).setCell ⟨rb, 1, none⟩ (.int .i64 (0))).setCell ⟨rb, 2, none⟩ (.int .i64 (0))).setCell ⟨rb, 3, none⟩ (.int .i64 (0))).setCell ⟨rb, 4, none⟩ (.int .i64 (0))).setCell ⟨rb, 5, none⟩ (.int .i64 (0))).setCell ⟨rb, 6, none⟩ (.int .i64 (0))) = wy at *
        have z0 : wy.cell? ⟨rb, 0, none⟩ = some (.int .i64 (0)) := hz.cell 0
        have z1 : wy.cell? ⟨rb, 1, none⟩ = some (.int .i64 (0)) := hz.cell 1
        have z2 : wy.cell? ⟨rb, 2, none⟩ = some (.int .i64 (0)) := hz.cell 2
        have z3 : wy.cell? ⟨rb, 3, none⟩ = some (.int .i64 (0)) := hz.cell 3
        have z4 : wy.cell? ⟨rb, 4, none⟩ = some (.int .i64 (0)) := hz.cell 4
        have z5 : wy.cell? ⟨rb, 5, none⟩ = some (.int .i64 (0)) := hz.cell 5
        have z6 : wy.cell? ⟨rb, 6, none⟩ = some (.int .i64 (0)) := hz.cell 6
        exact bodyPost_ret (v := .tuple #[.agg #[.int .i64 (0), .int .i64 (0), .int .i64 (0), .int .i64 (0), .int .i64 (0), .int .i64 (0), .int .i64 (0)], .int .i64 3]) (by simp [results, Tryz.results180, go_sem, z0, z1, z2, z3, z4, z5, z6]) rfl ⟨HF.out, gz⟩
      by_cases h57 : 57 < c
      · have HF := Lib.hid (weekR_bad (l := ls s) (e := 3) (Wk.bad_byte HB.out (by have := HC.out; unfold digC; simp; omega) HNB.out) (by decide))
        have hres := HMM.out.res
        have R0 : wr.cell? ⟨rb, 0, none⟩ = some (.int .i64 0) := hres.cell 0
        have R1 : wr.cell? ⟨rb, 1, none⟩ = some (.int .i64 0) := hres.cell 1
        have R2 : wr.cell? ⟨rb, 2, none⟩ = some (.int .i64 0) := hres.cell 2
        have R3 : wr.cell? ⟨rb, 3, none⟩ = some (.int .i64 0) := hres.cell 3
        have R4 : wr.cell? ⟨rb, 4, none⟩ = some (.int .i64 0) := hres.cell 4
        have R5 : wr.cell? ⟨rb, 5, none⟩ = some (.int .i64 0) := hres.cell 5
        have R6 : wr.cell? ⟨rb, 6, none⟩ = some (.int .i64 0) := hres.cell 6
        have G0 : wr.frozen? ⟨rb, 0, none⟩ = false := hres.frozen 0
        have G1 : wr.frozen? ⟨rb, 1, none⟩ = false := hres.frozen 1
        have G2 : wr.frozen? ⟨rb, 2, none⟩ = false := hres.frozen 2
        have G3 : wr.frozen? ⟨rb, 3, none⟩ = false := hres.frozen 3
        have G4 : wr.frozen? ⟨rb, 4, none⟩ = false := hres.frozen 4
        have G5 : wr.frozen? ⟨rb, 5, none⟩ = false := hres.frozen 5
        have G6 : wr.frozen? ⟨rb, 6, none⟩ = false := hres.frozen 6
        have HRES := Lib.hid hres
        clear hres
        go_wp2
        have hz := (((((((HRES.out.set_ 0 (.int .i64 (0))).set_ 1 (.int .i64 (0))).set_ 2 (.int .i64 (0))).set_ 3 (.int .i64 (0))).set_ 4 (.int .i64 (0))).set_ 5 (.int .i64 (0))).set_ 6 (.int .i64 (0)))
        have gz := (((((((HMM.out.bel.setCell (p := ⟨rb, 0, none⟩) HRB.out (.int .i64 (0))).setCell (p := ⟨rb, 1, none⟩) HRB.out (.int .i64 (0))).setCell (p := ⟨rb, 2, none⟩) HRB.out (.int .i64 (0))).setCell (p := ⟨rb, 3, none⟩) HRB.out (.int .i64 (0))).setCell (p := ⟨rb, 4, none⟩) HRB.out (.int .i64 (0))).setCell (p := ⟨rb, 5, none⟩) HRB.out (.int .i64 (0))).setCell (p := ⟨rb, 6, none⟩) HRB.out (.int .i64 (0)))
        clear R0 G0 R1 G1 R2 G2 R3 G3 R4 G4 R5 G5 R6 G6
        generalize (((((((wr.setCell ⟨rb, 0, none⟩ (.int .i64 (0))).setCell ⟨rb, 1, none⟩ (.int .i64 (0))).setCell ⟨rb, 2, none⟩ (.int .i64 (0))).setCell ⟨rb, 3, none⟩ (.int .i64 (0))).setCell ⟨rb, 4, none⟩ (.int .i64 (0))).setCell ⟨rb, 5, none⟩ (.int .i64 (0))).setCell ⟨rb, 6, none⟩ (.int .i64 (0))) = wy at *
        have z0 : wy.cell? ⟨rb, 0, none⟩ = some (.int .i64 (0)) := hz.cell 0
        have z1 : wy.cell? ⟨rb, 1, none⟩ = some (.int .i64 (0)) := hz.cell 1
        have z2 : wy.cell? ⟨rb, 2, none⟩ = some (.int .i64 (0)) := hz.cell 2
        have z3 : wy.cell? ⟨rb, 3, none⟩ = some (.int .i64 (0)) := hz.cell 3
        have z4 : wy.cell? ⟨rb, 4, none⟩ = some (.int .i64 (0)) := hz.cell 4
        have z5 : wy.cell? ⟨rb, 5, none⟩ = some (.int .i64 (0)) := hz.cell 5
        have z6 : wy.cell? ⟨rb, 6, none⟩ = some (.int .i64 (0)) := hz.cell 6
        exact bodyPost_ret (v := .tuple #[.agg #[.int .i64 (0), .int .i64 (0), .int .i64 (0), .int .i64 (0), .int .i64 (0), .int .i64 (0), .int .i64 (0)], .int .i64 3]) (by simp [results, Tryz.results180, go_sem, z0, z1, z2, z3, z4, z5, z6]) rfl ⟨HF.out, gz⟩
      have HDG : Hid (digC b = true) := Lib.hid (by rw [digC_iff]; have := HC.out; omega)
      have W0 : wr.cell? ⟨wb, I.length, none⟩ = some (.int .i64 (wf (I ++ [z]) I.length)) := by rw [HMM.out.wk.cell, w7_get _ (by omega)]
      have WZ : wr.frozen? ⟨wb, I.length, none⟩ = false := HMM.out.wk.frozen _
      have hwf := wf_bd (I ++ [z]) I.length
      have hI7 : (I.length : Int) < 7 := by omega
      have HM2 := Lib.hid (fun v hv => HMM.out.more (b := b) (c := c) (by omega) HNE.out HC.out (by omega) (v := v) hv)
      generalize wf (I ++ [z]) I.length = n at *
      by_cases hz : z = []
      · have hz0 : ¬ (0 : Int) < (z.length : Int) := by rw [hz]; simp
        have bz0 : ((z.length : Int) == 0) = true := by rw [hz]; rfl
        have HK2 := Lib.hid (HK.out.more HB.out HDG.out (.inl hz))
        have HF2 : Hid (z ++ [b] ≠ [] → ((z ++ [b]).head? = some 48 ↔ c = 48)) := Lib.hid (fun _ => by rw [hz]; exact head_48 HC.out)
        clear hz
        have HM3 := Lib.hid (HM2.out _ rfl)
        go_wp2
        refine ⟨⟨k + 1, I, z ++ [b], c, by omega, by go_num, rfl, by simp, rfl, HF2, HK2, HM3⟩, by simp [intOf]; omega⟩
      · have hz0 : (0 : Int) < (z.length : Int) := by have := List.length_pos_iff.2 hz; omega
        have bz0 : ((z.length : Int) == 0) = false := beq_eq_false_iff_ne.2 (by omega)
        by_cases hc0 : c0 = 48
        · have bc0 : (c0 == 48) = true := beq_iff_eq.2 hc0
          have HF := Lib.hid (weekR_bad (l := ls s) (e := 3) (HK.out.bad_nought HB.out HNB.out hz ((HF0.out hz).2 hc0)) (by decide))
          clear hc0 hz
          have hres := HMM.out.res
          have R0 : wr.cell? ⟨rb, 0, none⟩ = some (.int .i64 0) := hres.cell 0
          have R1 : wr.cell? ⟨rb, 1, none⟩ = some (.int .i64 0) := hres.cell 1
          have R2 : wr.cell? ⟨rb, 2, none⟩ = some (.int .i64 0) := hres.cell 2
          have R3 : wr.cell? ⟨rb, 3, none⟩ = some (.int .i64 0) := hres.cell 3
          have R4 : wr.cell? ⟨rb, 4, none⟩ = some (.int .i64 0) := hres.cell 4
          have R5 : wr.cell? ⟨rb, 5, none⟩ = some (.int .i64 0) := hres.cell 5
          have R6 : wr.cell? ⟨rb, 6, none⟩ = some (.int .i64 0) := hres.cell 6
          have G0 : wr.frozen? ⟨rb, 0, none⟩ = false := hres.frozen 0
          have G1 : wr.frozen? ⟨rb, 1, none⟩ = false := hres.frozen 1
          have G2 : wr.frozen? ⟨rb, 2, none⟩ = false := hres.frozen 2
          have G3 : wr.frozen? ⟨rb, 3, none⟩ = false := hres.frozen 3
          have G4 : wr.frozen? ⟨rb, 4, none⟩ = false := hres.frozen 4
          have G5 : wr.frozen? ⟨rb, 5, none⟩ = false := hres.frozen 5
          have G6 : wr.frozen? ⟨rb, 6, none⟩ = false := hres.frozen 6
          have HRES := Lib.hid hres
          clear hres
          go_wp2
          have hz := (((((((HRES.out.set_ 0 (.int .i64 (0))).set_ 1 (.int .i64 (0))).set_ 2 (.int .i64 (0))).set_ 3 (.int .i64 (0))).set_ 4 (.int .i64 (0))).set_ 5 (.int .i64 (0))).set_ 6 (.int .i64 (0)))
          have gz := (((((((HMM.out.bel.setCell (p := ⟨rb, 0, none⟩) HRB.out (.int .i64 (0))).setCell (p := ⟨rb, 1, none⟩) HRB.out (.int .i64 (0))).setCell (p := ⟨rb, 2, none⟩) HRB.out (.int .i64 (0))).setCell (p := ⟨rb, 3, none⟩) HRB.out (.int .i64 (0))).setCell (p := ⟨rb, 4, none⟩) HRB.out (.int .i64 (0))).setCell (p := ⟨rb, 5, none⟩) HRB.out (.int .i64 (0))).setCell (p := ⟨rb, 6, none⟩) HRB.out (.int .i64 (0)))
          clear R0 G0 R1 G1 R2 G2 R3 G3 R4 G4 R5 G5 R6 G6
          generalize (((((((wr.setCell ⟨rb, 0, none⟩ (.int .i64 (0))).setCell ⟨rb, 1, none⟩ (.int .i64 (0))).setCell ⟨rb, 2, none⟩ (.int .i64 (0))).setCell ⟨rb, 3, none⟩ (.int .i64 (0))).setCell ⟨rb, 4, none⟩ (.int .i64 (0))).setCell ⟨rb, 5, none⟩ (.int .i64 (0))).setCell ⟨rb, 6, none⟩ (.int .i64 (0))) = wy at *
          have z0 : wy.cell? ⟨rb, 0, none⟩ = some (.int .i64 (0)) := hz.cell 0
          have z1 : wy.cell? ⟨rb, 1, none⟩ = some (.int .i64 (0)) := hz.cell 1
          have z2 : wy.cell? ⟨rb, 2, none⟩ = some (.int .i64 (0)) := hz.cell 2
          have z3 : wy.cell? ⟨rb, 3, none⟩ = some (.int .i64 (0)) := hz.cell 3
          have z4 : wy.cell? ⟨rb, 4, none⟩ = some (.int .i64 (0)) := hz.cell 4
          have z5 : wy.cell? ⟨rb, 5, none⟩ = some (.int .i64 (0)) := hz.cell 5
          have z6 : wy.cell? ⟨rb, 6, none⟩ = some (.int .i64 (0)) := hz.cell 6
          exact bodyPost_ret (v := .tuple #[.agg #[.int .i64 (0), .int .i64 (0), .int .i64 (0), .int .i64 (0), .int .i64 (0), .int .i64 (0), .int .i64 (0)], .int .i64 3]) (by simp [results, Tryz.results180, go_sem, z0, z1, z2, z3, z4, z5, z6]) rfl ⟨HF.out, gz⟩
        · have bc0 : (c0 == 48) = false := beq_eq_false_iff_ne.2 hc0
          have HK2 := Lib.hid (HK.out.more HB.out HDG.out (.inr (fun h => hc0 ((HF0.out hz).1 h))))
          have HF2 : Hid (z ++ [b] ≠ [] → ((z ++ [b]).head? = some 48 ↔ c0 = 48)) := Lib.hid (fun _ => by
            have := HF0.out hz
            match z, hz with
            | x :: r, _ => exact this)
          clear hc0 hz
          have HM3 := Lib.hid (HM2.out _ rfl)
          go_wp2
          refine ⟨⟨k + 1, I, z ++ [b], c0, by omega, by go_num, rfl, by simp, rfl, HF2, HK2, HM3⟩, by simp [intOf]; omega⟩
    · obtain rfl : k = s.size := by omega
      have HK2 : Hid (Wk (ls s) (ls s).length I z) := Lib.hid (by rw [ls_len]; exact HK.out)
      have hI := HK.out.len
      by_cases h6 : I.length = 6
      · have b6 : ((I.length : Int) != 6) = false := by rw [h6]; rfl
        have H6 := Lib.hid h6
        clear h6
        by_cases hz : z = []
        · have bz : ((z.length : Int) == 0) = true := by rw [hz]; rfl
          have HF := Lib.hid (weekR_bad (l := ls s) (e := 3) (HK2.out.bad_end (.inr hz)) (by decide))
          clear hz
          have hres := HMM.out.res
          have R0 : wr.cell? ⟨rb, 0, none⟩ = some (.int .i64 0) := hres.cell 0
          have R1 : wr.cell? ⟨rb, 1, none⟩ = some (.int .i64 0) := hres.cell 1
          have R2 : wr.cell? ⟨rb, 2, none⟩ = some (.int .i64 0) := hres.cell 2
          have R3 : wr.cell? ⟨rb, 3, none⟩ = some (.int .i64 0) := hres.cell 3
          have R4 : wr.cell? ⟨rb, 4, none⟩ = some (.int .i64 0) := hres.cell 4
          have R5 : wr.cell? ⟨rb, 5, none⟩ = some (.int .i64 0) := hres.cell 5
          have R6 : wr.cell? ⟨rb, 6, none⟩ = some (.int .i64 0) := hres.cell 6
          have G0 : wr.frozen? ⟨rb, 0, none⟩ = false := hres.frozen 0
          have G1 : wr.frozen? ⟨rb, 1, none⟩ = false := hres.frozen 1
          have G2 : wr.frozen? ⟨rb, 2, none⟩ = false := hres.frozen 2
          have G3 : wr.frozen? ⟨rb, 3, none⟩ = false := hres.frozen 3
          have G4 : wr.frozen? ⟨rb, 4, none⟩ = false := hres.frozen 4
          have G5 : wr.frozen? ⟨rb, 5, none⟩ = false := hres.frozen 5
          have G6 : wr.frozen? ⟨rb, 6, none⟩ = false := hres.frozen 6
          have HRES := Lib.hid hres
          clear hres
          go_wp2
          have hz := (((((((HRES.out.set_ 0 (.int .i64 (0))).set_ 1 (.int .i64 (0))).set_ 2 (.int .i64 (0))).set_ 3 (.int .i64 (0))).set_ 4 (.int .i64 (0))).set_ 5 (.int .i64 (0))).set_ 6 (.int .i64 (0)))
          have gz := (((((((HMM.out.bel.setCell (p := ⟨rb, 0, none⟩) HRB.out (.int .i64 (0))).setCell (p := ⟨rb, 1, none⟩) HRB.out (.int .i64 (0))).setCell (p := ⟨rb, 2, none⟩) HRB.out (.int .i64 (0))).setCell (p := ⟨rb, 3, none⟩) HRB.out (.int .i64 (0))).setCell (p := ⟨rb, 4, none⟩) HRB.out (.int .i64 (0))).setCell (p := ⟨rb, 5, none⟩) HRB.out (.int .i64 (0))).setCell (p := ⟨rb, 6, none⟩) HRB.out (.int .i64 (0)))
          clear R0 G0 R1 G1 R2 G2 R3 G3 R4 G4 R5 G5 R6 G6
          generalize (((((((wr.setCell ⟨rb, 0, none⟩ (.int .i64 (0))).setCell ⟨rb, 1, none⟩ (.int .i64 (0))).setCell ⟨rb, 2, none⟩ (.int .i64 (0))).setCell ⟨rb, 3, none⟩ (.int .i64 (0))).setCell ⟨rb, 4, none⟩ (.int .i64 (0))).setCell ⟨rb, 5, none⟩ (.int .i64 (0))).setCell ⟨rb, 6, none⟩ (.int .i64 (0))) = wy at *
          have z0 : wy.cell? ⟨rb, 0, none⟩ = some (.int .i64 (0)) := hz.cell 0
          have z1 : wy.cell? ⟨rb, 1, none⟩ = some (.int .i64 (0)) := hz.cell 1
          have z2 : wy.cell? ⟨rb, 2, none⟩ = some (.int .i64 (0)) := hz.cell 2
          have z3 : wy.cell? ⟨rb, 3, none⟩ = some (.int .i64 (0)) := hz.cell 3
          have z4 : wy.cell? ⟨rb, 4, none⟩ = some (.int .i64 (0)) := hz.cell 4
          have z5 : wy.cell? ⟨rb, 5, none⟩ = some (.int .i64 (0)) := hz.cell 5
          have z6 : wy.cell? ⟨rb, 6, none⟩ = some (.int .i64 (0)) := hz.cell 6
          exact bodyPost_ret (v := .tuple #[.agg #[.int .i64 (0), .int .i64 (0), .int .i64 (0), .int .i64 (0), .int .i64 (0), .int .i64 (0), .int .i64 (0)], .int .i64 3]) (by simp [results, Tryz.results180, go_sem, z0, z1, z2, z3, z4, z5, z6]) rfl ⟨HF.out, gz⟩
        · have bz : ((z.length : Int) == 0) = false := beq_eq_false_iff_ne.2 (by have := List.length_pos_iff.2 hz; omega)
          have HFIN := Lib.hid (HK2.out.fin H6.out hz)
          clear hz
          have HP7 : Hid ((I ++ [z]).length = 7) := Lib.hid (by have := H6.out; simp; omega)
          have HRW7 := Lib.hid (right_wf HP7.out)
          have W0 : wr.cell? ⟨wb, 0, none⟩ = some (.int .i64 (wf (I ++ [z]) 0)) := HMM.out.wk.cell 0
          have W1 : wr.cell? ⟨wb, 1, none⟩ = some (.int .i64 (wf (I ++ [z]) 1)) := HMM.out.wk.cell 1
          have W2 : wr.cell? ⟨wb, 2, none⟩ = some (.int .i64 (wf (I ++ [z]) 2)) := HMM.out.wk.cell 2
          have W3 : wr.cell? ⟨wb, 3, none⟩ = some (.int .i64 (wf (I ++ [z]) 3)) := HMM.out.wk.cell 3
          have W4 : wr.cell? ⟨wb, 4, none⟩ = some (.int .i64 (wf (I ++ [z]) 4)) := HMM.out.wk.cell 4
          have W5 : wr.cell? ⟨wb, 5, none⟩ = some (.int .i64 (wf (I ++ [z]) 5)) := HMM.out.wk.cell 5
          have W6 : wr.cell? ⟨wb, 6, none⟩ = some (.int .i64 (wf (I ++ [z]) 6)) := HMM.out.wk.cell 6
          have HRC := Lib.hid (wk_right (wf (I ++ [z])))
          go_wp2_with fail
          refine (HRC.out _).mono ?_
          rintro e w1 ⟨rfl, hg1⟩
          have HM1 : Hid (WM w w1 rb wb bb s (I ++ [z])) := Lib.hid ⟨HMM.out.res.grows hg1, HMM.out.wk.grows hg1, fun j hj => hg1.cell (cell_lt (HMM.out.by_ j hj)) (HMM.out.by_ j hj), HMM.out.bel.trans (belowW hg1.below HMM.out.bel.size)⟩
          clear hg1 W0 W1 W2 W3 W4 W5 W6
          rw [HRW7.out]
          by_cases hr : ((I ++ [z]).all fun w => decide (numL 0 w ≤ 1440)) = true
          · have HOK : Hid (weekE (ls s) = 0) := Lib.hid (by rw [HFIN.out.2, if_pos hr])
            have HF := Lib.hid (weekR_ok HFIN.out.1 HP7.out HOK.out hr)
            rw [hr]
            clear hr
            have W0 : w1.cell? ⟨wb, 0, none⟩ = some (.int .i64 (wf (I ++ [z]) 0)) := HM1.out.wk.cell 0
            have W1 : w1.cell? ⟨wb, 1, none⟩ = some (.int .i64 (wf (I ++ [z]) 1)) := HM1.out.wk.cell 1
            have W2 : w1.cell? ⟨wb, 2, none⟩ = some (.int .i64 (wf (I ++ [z]) 2)) := HM1.out.wk.cell 2
            have W3 : w1.cell? ⟨wb, 3, none⟩ = some (.int .i64 (wf (I ++ [z]) 3)) := HM1.out.wk.cell 3
            have W4 : w1.cell? ⟨wb, 4, none⟩ = some (.int .i64 (wf (I ++ [z]) 4)) := HM1.out.wk.cell 4
            have W5 : w1.cell? ⟨wb, 5, none⟩ = some (.int .i64 (wf (I ++ [z]) 5)) := HM1.out.wk.cell 5
            have W6 : w1.cell? ⟨wb, 6, none⟩ = some (.int .i64 (wf (I ++ [z]) 6)) := HM1.out.wk.cell 6
            have hres := HM1.out.res
            have R0 : w1.cell? ⟨rb, 0, none⟩ = some (.int .i64 0) := hres.cell 0
            have R1 : w1.cell? ⟨rb, 1, none⟩ = some (.int .i64 0) := hres.cell 1
            have R2 : w1.cell? ⟨rb, 2, none⟩ = some (.int .i64 0) := hres.cell 2
            have R3 : w1.cell? ⟨rb, 3, none⟩ = some (.int .i64 0) := hres.cell 3
            have R4 : w1.cell? ⟨rb, 4, none⟩ = some (.int .i64 0) := hres.cell 4
            have R5 : w1.cell? ⟨rb, 5, none⟩ = some (.int .i64 0) := hres.cell 5
            have R6 : w1.cell? ⟨rb, 6, none⟩ = some (.int .i64 0) := hres.cell 6
            have G0 : w1.frozen? ⟨rb, 0, none⟩ = false := hres.frozen 0
            have G1 : w1.frozen? ⟨rb, 1, none⟩ = false := hres.frozen 1
            have G2 : w1.frozen? ⟨rb, 2, none⟩ = false := hres.frozen 2
            have G3 : w1.frozen? ⟨rb, 3, none⟩ = false := hres.frozen 3
            have G4 : w1.frozen? ⟨rb, 4, none⟩ = false := hres.frozen 4
            have G5 : w1.frozen? ⟨rb, 5, none⟩ = false := hres.frozen 5
            have G6 : w1.frozen? ⟨rb, 6, none⟩ = false := hres.frozen 6
            have HRES := Lib.hid hres
            clear hres
            go_wp2
            have hz := (((((((HRES.out.set_ 0 (.int .i64 (wf (I ++ [z]) 0))).set_ 1 (.int .i64 (wf (I ++ [z]) 1))).set_ 2 (.int .i64 (wf (I ++ [z]) 2))).set_ 3 (.int .i64 (wf (I ++ [z]) 3))).set_ 4 (.int .i64 (wf (I ++ [z]) 4))).set_ 5 (.int .i64 (wf (I ++ [z]) 5))).set_ 6 (.int .i64 (wf (I ++ [z]) 6)))
            have gz := (((((((HM1.out.bel.setCell (p := ⟨rb, 0, none⟩) HRB.out (.int .i64 (wf (I ++ [z]) 0))).setCell (p := ⟨rb, 1, none⟩) HRB.out (.int .i64 (wf (I ++ [z]) 1))).setCell (p := ⟨rb, 2, none⟩) HRB.out (.int .i64 (wf (I ++ [z]) 2))).setCell (p := ⟨rb, 3, none⟩) HRB.out (.int .i64 (wf (I ++ [z]) 3))).setCell (p := ⟨rb, 4, none⟩) HRB.out (.int .i64 (wf (I ++ [z]) 4))).setCell (p := ⟨rb, 5, none⟩) HRB.out (.int .i64 (wf (I ++ [z]) 5))).setCell (p := ⟨rb, 6, none⟩) HRB.out (.int .i64 (wf (I ++ [z]) 6)))
            clear W0 W1 W2 W3 W4 W5 W6 R0 G0 R1 G1 R2 G2 R3 G3 R4 G4 R5 G5 R6 G6
            generalize (((((((w1.setCell ⟨rb, 0, none⟩ (.int .i64 (wf (I ++ [z]) 0))).setCell ⟨rb, 1, none⟩ (.int .i64 (wf (I ++ [z]) 1))).setCell ⟨rb, 2, none⟩ (.int .i64 (wf (I ++ [z]) 2))).setCell ⟨rb, 3, none⟩ (.int .i64 (wf (I ++ [z]) 3))).setCell ⟨rb, 4, none⟩ (.int .i64 (wf (I ++ [z]) 4))).setCell ⟨rb, 5, none⟩ (.int .i64 (wf (I ++ [z]) 5))).setCell ⟨rb, 6, none⟩ (.int .i64 (wf (I ++ [z]) 6))) = wy at *
            have z0 : wy.cell? ⟨rb, 0, none⟩ = some (.int .i64 (wf (I ++ [z]) 0)) := hz.cell 0
            have z1 : wy.cell? ⟨rb, 1, none⟩ = some (.int .i64 (wf (I ++ [z]) 1)) := hz.cell 1
            have z2 : wy.cell? ⟨rb, 2, none⟩ = some (.int .i64 (wf (I ++ [z]) 2)) := hz.cell 2
            have z3 : wy.cell? ⟨rb, 3, none⟩ = some (.int .i64 (wf (I ++ [z]) 3)) := hz.cell 3
            have z4 : wy.cell? ⟨rb, 4, none⟩ = some (.int .i64 (wf (I ++ [z]) 4)) := hz.cell 4
            have z5 : wy.cell? ⟨rb, 5, none⟩ = some (.int .i64 (wf (I ++ [z]) 5)) := hz.cell 5
            have z6 : wy.cell? ⟨rb, 6, none⟩ = some (.int .i64 (wf (I ++ [z]) 6)) := hz.cell 6
            exact bodyPost_ret (v := .tuple #[.agg #[.int .i64 (wf (I ++ [z]) 0), .int .i64 (wf (I ++ [z]) 1), .int .i64 (wf (I ++ [z]) 2), .int .i64 (wf (I ++ [z]) 3), .int .i64 (wf (I ++ [z]) 4), .int .i64 (wf (I ++ [z]) 5), .int .i64 (wf (I ++ [z]) 6)], .int .i64 0]) (by simp [results, Tryz.results180, go_sem, z0, z1, z2, z3, z4, z5, z6]) rfl ⟨HF.out, gz⟩
          · have hr2 : ((I ++ [z]).all fun w => decide (numL 0 w ≤ 1440)) = false := by simpa using hr
            have HF := Lib.hid (weekR_bad (l := ls s) (e := 2) (by rw [HFIN.out.2, if_neg hr]) (by decide))
            rw [hr2]
            clear hr hr2
            have hres := HM1.out.res
            have R0 : w1.cell? ⟨rb, 0, none⟩ = some (.int .i64 0) := hres.cell 0
            have R1 : w1.cell? ⟨rb, 1, none⟩ = some (.int .i64 0) := hres.cell 1
            have R2 : w1.cell? ⟨rb, 2, none⟩ = some (.int .i64 0) := hres.cell 2
            have R3 : w1.cell? ⟨rb, 3, none⟩ = some (.int .i64 0) := hres.cell 3
            have R4 : w1.cell? ⟨rb, 4, none⟩ = some (.int .i64 0) := hres.cell 4
            have R5 : w1.cell? ⟨rb, 5, none⟩ = some (.int .i64 0) := hres.cell 5
            have R6 : w1.cell? ⟨rb, 6, none⟩ = some (.int .i64 0) := hres.cell 6
            have G0 : w1.frozen? ⟨rb, 0, none⟩ = false := hres.frozen 0
            have G1 : w1.frozen? ⟨rb, 1, none⟩ = false := hres.frozen 1
            have G2 : w1.frozen? ⟨rb, 2, none⟩ = false := hres.frozen 2
            have G3 : w1.frozen? ⟨rb, 3, none⟩ = false := hres.frozen 3
            have G4 : w1.frozen? ⟨rb, 4, none⟩ = false := hres.frozen 4
            have G5 : w1.frozen? ⟨rb, 5, none⟩ = false := hres.frozen 5
            have G6 : w1.frozen? ⟨rb, 6, none⟩ = false := hres.frozen 6
            have HRES := Lib.hid hres
            clear hres
            go_wp2
            have hz := (((((((HRES.out.set_ 0 (.int .i64 (0))).set_ 1 (.int .i64 (0))).set_ 2 (.int .i64 (0))).set_ 3 (.int .i64 (0))).set_ 4 (.int .i64 (0))).set_ 5 (.int .i64 (0))).set_ 6 (.int .i64 (0)))
            have gz := (((((((HM1.out.bel.setCell (p := ⟨rb, 0, none⟩) HRB.out (.int .i64 (0))).setCell (p := ⟨rb, 1, none⟩) HRB.out (.int .i64 (0))).setCell (p := ⟨rb, 2, none⟩) HRB.out (.int .i64 (0))).setCell (p := ⟨rb, 3, none⟩) HRB.out (.int .i64 (0))).setCell (p := ⟨rb, 4, none⟩) HRB.out (.int .i64 (0))).setCell (p := ⟨rb, 5, none⟩) HRB.out (.int .i64 (0))).setCell (p := ⟨rb, 6, none⟩) HRB.out (.int .i64 (0)))
            clear R0 G0 R1 G1 R2 G2 R3 G3 R4 G4 R5 G5 R6 G6
            generalize (((((((w1.setCell ⟨rb, 0, none⟩ (.int .i64 (0))).setCell ⟨rb, 1, none⟩ (.int .i64 (0))).setCell ⟨rb, 2, none⟩ (.int .i64 (0))).setCell ⟨rb, 3, none⟩ (.int .i64 (0))).setCell ⟨rb, 4, none⟩ (.int .i64 (0))).setCell ⟨rb, 5, none⟩ (.int .i64 (0))).setCell ⟨rb, 6, none⟩ (.int .i64 (0))) = wy at *
            have z0 : wy.cell? ⟨rb, 0, none⟩ = some (.int .i64 (0)) := hz.cell 0
            have z1 : wy.cell? ⟨rb, 1, none⟩ = some (.int .i64 (0)) := hz.cell 1
            have z2 : wy.cell? ⟨rb, 2, none⟩ = some (.int .i64 (0)) := hz.cell 2
            have z3 : wy.cell? ⟨rb, 3, none⟩ = some (.int .i64 (0)) := hz.cell 3
            have z4 : wy.cell? ⟨rb, 4, none⟩ = some (.int .i64 (0)) := hz.cell 4
            have z5 : wy.cell? ⟨rb, 5, none⟩ = some (.int .i64 (0)) := hz.cell 5
            have z6 : wy.cell? ⟨rb, 6, none⟩ = some (.int .i64 (0)) := hz.cell 6
            exact bodyPost_ret (v := .tuple #[.agg #[.int .i64 (0), .int .i64 (0), .int .i64 (0), .int .i64 (0), .int .i64 (0), .int .i64 (0), .int .i64 (0)], .int .i64 2]) (by simp [results, Tryz.results180, go_sem, z0, z1, z2, z3, z4, z5, z6]) rfl ⟨HF.out, gz⟩
      · have b6 : ((I.length : Int) != 6) = true := bne_iff_ne.2 (by omega)
        have HF := Lib.hid (weekR_bad (l := ls s) (e := 3) (HK2.out.bad_end (.inl h6)) (by decide))
        clear h6
        have hres := HMM.out.res
        have R0 : wr.cell? ⟨rb, 0, none⟩ = some (.int .i64 0) := hres.cell 0
        have R1 : wr.cell? ⟨rb, 1, none⟩ = some (.int .i64 0) := hres.cell 1
        have R2 : wr.cell? ⟨rb, 2, none⟩ = some (.int .i64 0) := hres.cell 2
        have R3 : wr.cell? ⟨rb, 3, none⟩ = some (.int .i64 0) := hres.cell 3
        have R4 : wr.cell? ⟨rb, 4, none⟩ = some (.int .i64 0) := hres.cell 4
        have R5 : wr.cell? ⟨rb, 5, none⟩ = some (.int .i64 0) := hres.cell 5
        have R6 : wr.cell? ⟨rb, 6, none⟩ = some (.int .i64 0) := hres.cell 6
        have G0 : wr.frozen? ⟨rb, 0, none⟩ = false := hres.frozen 0
        have G1 : wr.frozen? ⟨rb, 1, none⟩ = false := hres.frozen 1
        have G2 : wr.frozen? ⟨rb, 2, none⟩ = false := hres.frozen 2
        have G3 : wr.frozen? ⟨rb, 3, none⟩ = false := hres.frozen 3
        have G4 : wr.frozen? ⟨rb, 4, none⟩ = false := hres.frozen 4
        have G5 : wr.frozen? ⟨rb, 5, none⟩ = false := hres.frozen 5
        have G6 : wr.frozen? ⟨rb, 6, none⟩ = false := hres.frozen 6
        have HRES := Lib.hid hres
        clear hres
        go_wp2
        have hz := (((((((HRES.out.set_ 0 (.int .i64 (0))).set_ 1 (.int .i64 (0))).set_ 2 (.int .i64 (0))).set_ 3 (.int .i64 (0))).set_ 4 (.int .i64 (0))).set_ 5 (.int .i64 (0))).set_ 6 (.int .i64 (0)))
        have gz := (((((((HMM.out.bel.setCell (p := ⟨rb, 0, none⟩) HRB.out (.int .i64 (0))).setCell (p := ⟨rb, 1, none⟩) HRB.out (.int .i64 (0))).setCell (p := ⟨rb, 2, none⟩) HRB.out (.int .i64 (0))).setCell (p := ⟨rb, 3, none⟩) HRB.out (.int .i64 (0))).setCell (p := ⟨rb, 4, none⟩) HRB.out (.int .i64 (0))).setCell (p := ⟨rb, 5, none⟩) HRB.out (.int .i64 (0))).setCell (p := ⟨rb, 6, none⟩) HRB.out (.int .i64 (0)))
        clear R0 G0 R1 G1 R2 G2 R3 G3 R4 G4 R5 G5 R6 G6
        generalize (((((((wr.setCell ⟨rb, 0, none⟩ (.int .i64 (0))).setCell ⟨rb, 1, none⟩ (.int .i64 (0))).setCell ⟨rb, 2, none⟩ (.int .i64 (0))).setCell ⟨rb, 3, none⟩ (.int .i64 (0))).setCell ⟨rb, 4, none⟩ (.int .i64 (0))).setCell ⟨rb, 5, none⟩ (.int .i64 (0))).setCell ⟨rb, 6, none⟩ (.int .i64 (0))) = wy at *
        have z0 : wy.cell? ⟨rb, 0, none⟩ = some (.int .i64 (0)) := hz.cell 0
        have z1 : wy.cell? ⟨rb, 1, none⟩ = some (.int .i64 (0)) := hz.cell 1
        have z2 : wy.cell? ⟨rb, 2, none⟩ = some (.int .i64 (0)) := hz.cell 2
        have z3 : wy.cell? ⟨rb, 3, none⟩ = some (.int .i64 (0)) := hz.cell 3
        have z4 : wy.cell? ⟨rb, 4, none⟩ = some (.int .i64 (0)) := hz.cell 4
        have z5 : wy.cell? ⟨rb, 5, none⟩ = some (.int .i64 (0)) := hz.cell 5
        have z6 : wy.cell? ⟨rb, 6, none⟩ = some (.int .i64 (0)) := hz.cell 6
        exact bodyPost_ret (v := .tuple #[.agg #[.int .i64 (0), .int .i64 (0), .int .i64 (0), .int .i64 (0), .int .i64 (0), .int .i64 (0), .int .i64 (0)], .int .i64 3]) (by simp [results, Tryz.results180, go_sem, z0, z1, z2, z3, z4, z5, z6]) rfl ⟨HF.out, gz⟩
end Go.Proofs.YtheaacliomfkoaaGreatDoor
