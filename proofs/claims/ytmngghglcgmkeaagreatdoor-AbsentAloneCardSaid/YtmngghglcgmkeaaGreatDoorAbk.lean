/- Merged from: Abo Abp Abq Abs Abt Ach. -/
import Derived.Test.YtmngghglcgmkeaaGreatDoorAbz
import Derived.BigQuiet
import Derived.Test.YtmngghglcgmkeaaGreatDoorRgwr
import Derived.Test.YtmngghglcgmkeaaGreatDoorOp9
import Derived.Test.YtmngghglcgmkeaaGreatDoorAbj
import Derived.Deep.RegionHeld3
namespace Go.Proofs.YtmngghglcgmkeaaGreatDoor
open Go.RowKit Go.Sort

def pT (x : Ab) (d : Int) : Bool := decide (x.fr ≤ d) && (decide (x.to = 0) || decide (d < x.to))
def nnAt (M : List Ab) (j : Int) : Int := match M[j.toNat]? with
  | some x => x.nn
  | none => 0
def atM (M : List Ab) (d : Int) : Nat → Int
  | 0 => -1
  | k + 1 => match M[k]? with
    | some x => if (pT x d && (decide (atM M d k < 0) || decide (nnAt M (atM M d k) < x.nn))) = true then (k : Int) else atM M d k
    | none => atM M d k
theorem atM_succ {M : List Ab} {d : Int} {k : Nat} {x : Ab} (h : M[k]? = some x) : atM M d (k + 1) = if (pT x d && (decide (atM M d k < 0) || decide (nnAt M (atM M d k) < x.nn))) = true then (k : Int) else atM M d k := by
  rw [atM, h]
theorem atM_bd (M : List Ab) (d : Int) : ∀ k, atM M d k = -1 ∨ ∃ j : Nat, atM M d k = j ∧ j < k ∧ j < M.length
  | 0 => .inl rfl
  | k + 1 => by
    have ih := atM_bd M d k
    cases hx : M[k]? with
    | none =>
      rw [atM, hx]
      rcases ih with h | ⟨j, h1, h2, h3⟩
      · exact .inl h
      · exact .inr ⟨j, h1, by omega, h3⟩
    | some x =>
      rw [atM_succ hx]
      split
      · exact .inr ⟨k, rfl, by omega, by have := (List.getElem?_eq_some_iff.1 hx).1; omega⟩
      · rcases ih with h | ⟨j, h1, h2, h3⟩
        · exact .inl h
        · exact .inr ⟨j, h1, by omega, h3⟩
end Go.Proofs.YtmngghglcgmkeaaGreatDoor

namespace Go.Proofs.YtmngghglcgmkeaaGreatDoor
open Go.RowKit Go.Sort

def mAt (M : List Ab) (k : Int) : Ab := (M[k.toNat]?).getD ⟨0, 0, 0, 0, 0⟩
def setTo (O : List Ab) (e : Int) : List Ab := match O.getLast? with
  | some x => O.dropLast ++ [⟨x.fr, e, x.ki, x.pa, x.nn⟩]
  | none => O
theorem setTo_snoc (Q : List Ab) (q : Ab) (e : Int) : setTo (Q ++ [q]) e = Q ++ [⟨q.fr, e, q.ki, q.pa, q.nn⟩] := by
  unfold setTo
  simp
def rfS (M : List Ab) (s : List Ab × Int) (d k : Int) : List Ab × Int := if 0 ≤ k then (if k = s.2 then (setTo s.1 (d + 1), k) else (s.1 ++ [⟨d, d + 1, (mAt M k).ki, (mAt M k).pa, (mAt M k).nn⟩], k)) else (s.1, k)
/-- The document's absences of n days, and the place of the one on the last of them. -/
def rfN (M : List Ab) (F : Int) : Nat → List Ab × Int
  | 0 => ([], -1)
  | n + 1 => rfS M (rfN M F n) (F + n) (atM M (F + n) M.length)
theorem setTo_len (O : List Ab) (e : Int) : (setTo O e).length = O.length := by
  rcases O.eq_nil_or_concat with h | ⟨Q, q, h⟩
  · subst h; rfl
  · rw [List.concat_eq_append] at h; subst h; rw [setTo_snoc]; simp
theorem rfN_bd (M : List Ab) (F : Int) : ∀ n, (rfN M F n).1.length ≤ n ∧ (0 ≤ (rfN M F n).2 → (rfN M F n).1 ≠ []) ∧ ((rfN M F n).2 = -1 ∨ ∃ j : Nat, (rfN M F n).2 = j ∧ j < M.length)
  | 0 => ⟨Nat.le_refl _, fun h => absurd h (by show ¬ (0 : Int) ≤ -1; omega), .inl rfl⟩
  | n + 1 => by
    obtain ⟨h1, h2, h3⟩ := rfN_bd M F n
    have hk : atM M (F + n) M.length = -1 ∨ ∃ j : Nat, atM M (F + n) M.length = j ∧ j < M.length := by
      rcases atM_bd M (F + n) M.length with h | ⟨j, h4, _, h5⟩
      · exact .inl h
      · exact .inr ⟨j, h4, h5⟩
    unfold rfN rfS
    by_cases h : 0 ≤ atM M (F + n) M.length
    · by_cases he : atM M (F + n) M.length = (rfN M F n).2
      · rw [if_pos h, if_pos he]
        refine ⟨by rw [setTo_len]; omega, fun _ hn => ?_, hk⟩
        have h4 := congrArg List.length hn
        rw [setTo_len] at h4
        exact h2 (by omega) (List.eq_nil_of_length_eq_zero h4)
      · rw [if_pos h, if_neg he]
        exact ⟨by simp; omega, fun _ => by simp, hk⟩
    · rw [if_neg h]
      exact ⟨by show (rfN M F n).1.length ≤ n + 1; omega, fun h4 => absurd h4 h, hk⟩
theorem setLastAr {O : List Ab} {q : Ab} {c : Int} : (rowOf encAb (O ++ [q])).set (O.length * 5 + 1) (.int .i64 c) = rowOf encAb (O ++ [⟨q.fr, c, q.ki, q.pa, q.nn⟩]) := by
  rw [rowOf_append, rowOf_append]
  have hl : (rowOf encAb O).length = O.length * 5 := rowOf_length encAb_len O
  rw [List.set_append_right _ _ (by omega), hl, Nat.add_sub_cancel_left]
  rfl
/-- What ref18.Of answers. -/
def Of18 (M : List Ab) (F U : Int) (w : World) (e : Ending) (w' : World) : Prop := (∃ A c, e = .returned (.slice A (rfN M F (U - F).toNat).1.length c) ∧ Sl encAb 5 w' w'.heap.size A (rfN M F (U - F).toNat).1) ∧ Below w.heap.size w w'
end Go.Proofs.YtmngghglcgmkeaaGreatDoor

namespace Go.Proofs.YtmngghglcgmkeaaGreatDoor
open Go.RowKit Go.Sort

/-- A known fact, as the document has it. -/
def toAb (x : Kn) : Ab := ⟨x.2.fr, x.2.to, kiN x.2.co, x.2.nu, x.1⟩
theorem taken_no {T : List Fa} (h : ∀ f ∈ T, f.ki ≠ 18) (n : Int) : takenB T n = false := by
  unfold takenB
  rw [List.any_eq_false]
  intro f hf
  simp [h f hf]
theorem toMs_kA {T : List Fa} {pe : Int} (h : ∀ f ∈ T, f.ki ≠ 18) : toMs pe T = (kA T pe).map toAb := by
  unfold toMs kA chosen
  rw [List.map_filterMap]
  refine fm_congr _ fun i _ => ?_
  cases hx : T[i]? with
  | none => rfl
  | some f =>
    simp only [taken_no h, Bool.false_eq_true, if_false]
    unfold toOne ofPK
    by_cases h7 : f.ki = 7 ∧ f.pe = pe
    · have h8 : f.pe = pe ∧ f.ki = 7 := ⟨h7.2, h7.1⟩
      simp [h7, toAb]
    · have h8 : ¬ (f.pe = pe ∧ f.ki = 7) := fun e => h7 ⟨e.2, e.1⟩
      simp [h7, h8]
theorem nn_at (X : List Kn) (j : Int) : nnAt (X.map toAb) j = nAt X j := by
  unfold nnAt nAt
  rw [List.getElem?_map]
  cases X[j.toNat]? <;> rfl
theorem pT_in (x : Kn) (d : Int) : pT (toAb x) d = inB x.2 d := by
  unfold pT inB toAb
  rfl
theorem atM_plc (X : List Kn) (d : Int) : ∀ k, atM (X.map toAb) d k = plc X d k
  | 0 => rfl
  | k + 1 => by
    have ih := atM_plc X d k
    cases hx : X[k]? with
    | none =>
      rw [atM, plc, List.getElem?_map, hx]
      exact ih
    | some x =>
      rw [atM_succ (x := toAb x) (by rw [List.getElem?_map, hx]; rfl), plc_succ hx, ih, nn_at, pT_in]
      rfl

/-- The days from b on, n of them, behind a state. -/
def rfG (M : List Ab) (s : List Ab × Int) (b : Int) : Nat → List Ab × Int
  | 0 => s
  | n + 1 => rfS M (rfG M s b n) (b + n) (atM M (b + n) M.length)
theorem rfN_G (M : List Ab) (F : Int) : ∀ n, rfN M F n = rfG M ([], -1) F n
  | 0 => rfl
  | n + 1 => by rw [rfN, rfG, rfN_G M F n]
theorem rfG_add (M : List Ab) (s : List Ab × Int) (b : Int) (m : Nat) : ∀ n, rfG M s b (m + n) = rfG M (rfG M s b m) (b + m) n
  | 0 => rfl
  | n + 1 => by
    rw [← Nat.add_assoc, rfG, rfG, rfG_add M s b m n, show b + ((m + n : Nat) : Int) = b + (m : Int) + (n : Int) by omega]
theorem rfG_low {M : List Ab} {s : List Ab × Int} {b j : Int} (hj : ¬ 0 ≤ j) : ∀ n, (∀ i : Nat, i < n + 1 → atM M (b + i) M.length = j) → rfG M s b (n + 1) = (s.1, j)
  | 0, h => by
    rw [rfG, rfG, h 0 (by omega)]
    unfold rfS
    rw [if_neg hj]
  | n + 1, h => by
    rw [rfG, rfG_low hj n (fun i hi => h i (by omega)), h (n + 1) (by omega)]
    unfold rfS
    rw [if_neg hj]
theorem rfG_one {M : List Ab} {s : List Ab × Int} {b j : Int} (hj : 0 ≤ j) (hs : j ≠ s.2) : ∀ n, (∀ i : Nat, i < n + 1 → atM M (b + i) M.length = j) → rfG M s b (n + 1) = (s.1 ++ [⟨b, b + (n + 1 : Nat), (mAt M j).ki, (mAt M j).pa, (mAt M j).nn⟩], j)
  | 0, h => by
    rw [rfG, rfG, h 0 (by omega)]
    unfold rfS
    rw [if_pos hj, if_neg hs]
    simp
  | n + 1, h => by
    rw [rfG, rfG_one hj hs n (fun i hi => h i (by omega)), h (n + 1) (by omega)]
    unfold rfS
    rw [if_pos hj, if_pos rfl]
    simp only [setTo_snoc]
    rw [show b + ((n + 1 : Nat) : Int) + 1 = b + ((n + 1 + 1 : Nat) : Int) by omega]

/-- Stretches that touch, each with what stands on its days, unlike the one ahead of it. -/
inductive TiU (q : Int → Int) : Int → Int → List (Int × Int × Int) → Int → Prop
  | nil (F la : Int) : TiU q F la [] F
  | cons {F la b e j : Int} {P : List (Int × Int × Int)} : F < b → (∀ d, F ≤ d → d < b → q d = j) → (0 ≤ j → j ≠ la) → TiU q b j P e → TiU q F la ((F, b, j) :: P) e
/-- What stands on the last stretch. -/
def lastJ (la : Int) : List (Int × Int × Int) → Int
  | [] => la
  | p :: P => lastJ p.2.2 P
theorem lastJ_snoc (la : Int) (p : Int × Int × Int) : ∀ P, lastJ la (P ++ [p]) = p.2.2
  | [] => rfl
  | q :: P => lastJ_snoc q.2.2 p P
theorem TiU.snoc {q : Int → Int} {F la e b j : Int} {P : List (Int × Int × Int)} (h : TiU q F la P e) (h1 : e < b) (h2 : ∀ d, e ≤ d → d < b → q d = j) (h3 : 0 ≤ j → j ≠ lastJ la P) : TiU q F la (P ++ [(e, b, j)]) b := by
  induction h with
  | nil F la => exact .cons h1 h2 h3 (.nil _ _)
  | cons g1 g2 g3 _ ih => exact .cons g1 g2 g3 (ih h1 h2 h3)
def abR (M : List Ab) (p : Int × Int × Int) : Ab := ⟨p.1, p.2.1, (mAt M p.2.2).ki, (mAt M p.2.2).pa, (mAt M p.2.2).nn⟩
theorem TiU.run {M : List Ab} {F la e : Int} {P : List (Int × Int × Int)} (h : TiU (fun d => atM M d M.length) F la P e) : ∀ O : List Ab, F ≤ e ∧ (rfG M (O, la) F (e - F).toNat).1 = O ++ (P.filter fun p => decide (0 ≤ p.2.2)).map (abR M) := by
  induction h with
  | nil F la =>
    intro O
    refine ⟨Int.le_refl _, ?_⟩
    rw [Int.sub_self]
    show O = _
    simp
  | @cons F la b e j P g1 g2 g3 _ ih =>
    intro O
    obtain ⟨n, hn⟩ : ∃ n : Nat, (b - F).toNat = n + 1 := ⟨(b - F).toNat - 1, by omega⟩
    have hb : b = F + ((n + 1 : Nat) : Int) := by omega
    have hall : ∀ i : Nat, i < n + 1 → atM M (F + i) M.length = j := fun i hi => g2 _ (by omega) (by omega)
    by_cases hj : 0 ≤ j
    · obtain ⟨h1, h2⟩ := ih (O ++ [abR M (F, b, j)])
      refine ⟨by omega, ?_⟩
      rw [show (e - F).toNat = (n + 1) + (e - b).toNat by omega, rfG_add, rfG_one hj (g3 hj) n hall, ← hb, List.filter_cons]
      simp only [hj, decide_true, if_true, List.map_cons]
      rw [show (⟨F, b, (mAt M j).ki, (mAt M j).pa, (mAt M j).nn⟩ : Ab) = abR M (F, b, j) from rfl, h2, List.append_assoc]
      rfl
    · obtain ⟨h1, h2⟩ := ih O
      refine ⟨by omega, ?_⟩
      rw [show (e - F).toNat = (n + 1) + (e - b).toNat by omega, rfG_add, rfG_low hj n hall, ← hb, List.filter_cons]
      simp only [hj, decide_false, Bool.false_eq_true, if_false]
      exact h2

theorem inB_constA {f : Fa} {a b : Int} (hab : a ≤ b) (h : ∀ c, a < c → c ≤ b → f.fr ≠ c ∧ f.to ≠ c) : inB f a = inB f b := by
  have h1 : decide (f.fr ≤ a) = decide (f.fr ≤ b) := decide_eq_decide.2 ⟨fun _ => by omega, fun _ => by
    by_cases hx : a < f.fr
    · exact absurd rfl (h f.fr hx (by assumption)).1
    · omega⟩
  have h2 : decide (a < f.to) = decide (b < f.to) := decide_eq_decide.2 ⟨fun hx => by
    by_cases hy : f.to ≤ b
    · exact absurd rfl (h f.to hx hy).2
    · omega, fun _ => by omega⟩
  unfold inB
  rw [h1, h2]
theorem plc_constA {X : List Kn} {a b : Int} (hab : a ≤ b) (h : ∀ c, a < c → c ≤ b → ∀ x ∈ X, x.2.fr ≠ c ∧ x.2.to ≠ c) : ∀ k, plc X a k = plc X b k
  | 0 => rfl
  | k + 1 => by
    have ih := plc_constA hab h k
    cases hx : X[k]? with
    | none => rw [plc, plc, hx]; exact ih
    | some x =>
      rw [plc_succ hx, plc_succ hx, ih, inB_constA hab (fun c h1 h2 => h c h1 h2 x (List.mem_of_getElem? hx))]
theorem mem_endsA {X : List Kn} {F T d : Int} (h1 : F < d ∧ d < T) (h2 : ∃ x ∈ X, d = x.2.fr ∨ d = x.2.to) : d ∈ endsL F T X := by
  obtain ⟨x, hx, hd⟩ := h2
  unfold endsL
  rw [List.mem_flatMap]
  refine ⟨x, hx, ?_⟩
  rw [List.mem_filter]
  refine ⟨by rcases hd with rfl | rfl <;> simp, ?_⟩
  unfold selB
  simp [h1.1, h1.2]
theorem mem_cutsA {X : List Kn} {F T d : Int} (h1 : F < d ∧ d < T) (h2 : ∃ x ∈ X, d = x.2.fr ∨ d = x.2.to) : d ∈ cutsL X F T := by
  unfold cutsL
  exact (mem_foldU _ _ _).2 (.inl (mem_endsA h1 h2))
/-- Where the fold over the cuts stands. -/
structure StU (X : List Kn) (F c : Int) (s : SS) : Prop where
  tile : TiU (fun d => plc X d X.length) F (-1) s.2.2 s.1
  le : s.1 ≤ c
  const : ∀ d, s.1 ≤ d → d ≤ c → plc X d X.length = s.2.1
  un : 0 ≤ s.2.1 → s.2.1 ≠ lastJ (-1) s.2.2
theorem StU.upto {X : List Kn} {F c e : Int} {s : SS} (h : StU X F c s) (hno : ∀ d, c < d → d < e → ∀ x ∈ X, x.2.fr ≠ d ∧ x.2.to ≠ d) : ∀ d, s.1 ≤ d → d < e → plc X d X.length = s.2.1 := fun d h1 h2 => by
  by_cases hd : d ≤ c
  · exact h.const d h1 hd
  · rw [← h.const c h.le (Int.le_refl _)]
    exact (plc_constA (by omega) (fun k k1 k2 => hno k k1 (by omega)) _).symm
theorem StU.step {X : List Kn} {F c e : Int} {s : SS} (h : StU X F c s) (hce : c < e) (hno : ∀ d, c < d → d < e → ∀ x ∈ X, x.2.fr ≠ d ∧ x.2.to ≠ d) : StU X F e (strS X s e) := by
  have hu := h.upto hno
  have hl := h.le
  unfold strS
  by_cases hq : plc X e X.length = s.2.1
  · rw [if_pos hq]
    refine ⟨h.tile, by omega, fun d h1 h2 => ?_, h.un⟩
    by_cases hde : d = e
    · subst hde; exact hq
    · exact hu d h1 (by omega)
  · rw [if_neg hq]
    refine ⟨h.tile.snoc (by omega) hu h.un, Int.le_refl _, fun d h1 h2 => ?_, fun _ => ?_⟩
    · obtain rfl : d = e := by simp at h1; omega
      rfl
    · rw [lastJ_snoc]
      exact hq
theorem StU.all {X : List Kn} {F T : Int} : ∀ (C : List Int) {c : Int} {s : SS}, StU X F c s → C.Pairwise (· < ·) → (∀ d ∈ C, c < d ∧ d < T) → (∀ d, c < d → d < T → (∃ x ∈ X, d = x.2.fr ∨ d = x.2.to) → d ∈ C) → c < T →
    TiU (fun d => plc X d X.length) F (-1) ((C.foldl (strS X) s).2.2 ++ [((C.foldl (strS X) s).1, T, (C.foldl (strS X) s).2.1)]) T
  | [], c, s, h, _, _, hall, hT => by
    have hl := h.le
    refine h.tile.snoc (show s.1 < T by omega) (h.upto fun d h1 h2 x hx => ⟨fun e => ?_, fun e => ?_⟩) h.un
    · exact absurd (hall d h1 h2 ⟨x, hx, .inl e.symm⟩) (List.not_mem_nil)
    · exact absurd (hall d h1 h2 ⟨x, hx, .inr e.symm⟩) (List.not_mem_nil)
  | e :: C, c, s, h, hp, hm, hall, hT => by
    rw [List.pairwise_cons] at hp
    have he := hm e (List.mem_cons_self)
    rw [List.foldl_cons]
    have hnot : ∀ d, c < d → d < e → (∃ x ∈ X, d = x.2.fr ∨ d = x.2.to) → False := fun d h1 h2 hx => by
      rcases List.mem_cons.1 (hall d h1 (by omega) hx) with h3 | h3
      · omega
      · have := hp.1 d h3
        omega
    refine StU.all C (h.step he.1 fun d h1 h2 x hx => ⟨fun e2 => hnot d h1 h2 ⟨x, hx, .inl e2.symm⟩, fun e2 => hnot d h1 h2 ⟨x, hx, .inr e2.symm⟩⟩) hp.2 (fun d hd => ⟨hp.1 d hd, (hm d (List.mem_cons_of_mem _ hd)).2⟩) (fun d h1 h2 hx => ?_) he.2
    rcases List.mem_cons.1 (hall d (by omega) h2 hx) with h3 | h3
    · omega
    · exact h3
theorem strL_tiu {X : List Kn} {F T : Int} (h : F < T) : TiU (fun d => plc X d X.length) F (-1) (strL X F T) T := by
  unfold strL strK
  rw [if_neg (by omega)]
  refine StU.all (cutsL X F T) (c := F) ⟨.nil F (-1), Int.le_refl _, fun d h1 h2 => ?_, fun h0 e => ?_⟩ (sorted_foldU _ _ .nil) (fun d hd => mem_cuts hd) (fun d h1 h2 hx => mem_cutsA ⟨h1, h2⟩ hx) h
  · obtain rfl : d = F := by simp at h1; omega
    rfl
  · rw [e] at h0
    exact absurd h0 (by show ¬ (0 : Int) ≤ -1; omega)
theorem rf_strQ (X : List Kn) (F U : Int) : (rfN (X.map toAb) F (U - F).toNat).1 = (strQ X F U).map (abR (X.map toAb)) := by
  rw [rfN_G]
  unfold strQ
  by_cases h : F < U
  · have h1 := strL_tiu (X := X) h
    have hq : (fun d => plc X d X.length) = fun d => atM (X.map toAb) d (X.map toAb).length := by
      funext d
      rw [atM_plc, List.length_map]
    rw [hq] at h1
    rw [(h1.run []).2, List.nil_append]
  · unfold strL
    rw [if_pos (by omega), show (U - F).toNat = 0 by omega]
    rfl
theorem mem_chosenA {p : Fa → Bool} {L : List Fa} {k : Nat} {x : Kn} (h : x ∈ chosen p L k) : x.2 ∈ L ∧ p x.2 = true := by
  unfold chosen at h
  rw [List.mem_filterMap] at h
  obtain ⟨i, _, hi⟩ := h
  cases hx : L[i]? with
  | none => rw [hx] at hi; cases hi
  | some f =>
    rw [hx] at hi
    simp only at hi
    split at hi
    · cases hi
    · split at hi
      · injection hi with hi
        subst hi
        exact ⟨List.mem_of_getElem? hx, by assumption⟩
      · cases hi
theorem chk_abs {f : Fa} (h : chkF f = 0) (hk : f.ki = 7) : kiN f.co = (kiB f.co).1 := by
  have hc : codeB 7 (ls f.co) = true := by
    unfold chkF at h
    rw [hk] at h
    cases hb : codeB 7 (ls f.co) with
    | true => rfl
    | false =>
      exfalso
      rw [hb] at h
      rw [if_neg (by omega)] at h
      split at h
      · omega
      · split at h
        · contradiction
        · rw [if_pos rfl] at h; omega
  have hc2 : absenceB (ls f.co) = true := hc
  unfold absenceB at hc2
  rw [decide_eq_true_iff] at hc2
  have e : f.co.toList = ls f.co := toList_ls f.co
  unfold kiN kiB
  rw [e]
  rcases hc2 with h1 | h1 | h1 | h1 <;> rw [h1] <;> decide
/-- A person's absences are the document's. -/
theorem tells_law {T : List Fa} {pe F U : Int} (h18 : ∀ f ∈ T, f.ki ≠ 18) (hc : ∀ f ∈ T, chkF f = 0) : (rfN (toMs pe T) F (U - F).toNat).1 = absX (kA T pe) F U := by
  rw [toMs_kA h18, rf_strQ]
  unfold absX
  refine List.map_congr_left fun p hp => ?_
  obtain ⟨j, x, h1, h2, _, h4⟩ := strQ_ok hp
  rw [h4]
  have hm := mem_chosenA (List.mem_of_getElem? h2)
  have h7 : x.2.ki = 7 := by
    have := hm.2
    unfold ofPK at this
    simpa using (decide_eq_true_iff.1 this).2
  have e : mAt ((kA T pe).map toAb) p.2.2 = toAb x := by
    unfold mAt
    rw [h1, Int.toNat_natCast, List.getElem?_map, h2]
    rfl
  unfold abR
  rw [e, ← chk_abs (hc _ hm.1) h7]
  rfl
theorem tell_chkA : ∀ (l L : List Fa), (∀ x ∈ L, chkF x = 0) → ∀ x ∈ tellL L l, chkF x = 0
  | [], L, h => h
  | f :: l, L, h => by
    rw [tellL_cons]
    refine tell_chkA l _ fun x hx => ?_
    rcases addL_or L f with ⟨e, _, he⟩ | ⟨he, _, hc, _, _⟩
    · rw [he] at hx; exact h x hx
    · rw [he] at hx
      rcases List.mem_append.1 hx with hx | hx
      · exact h x hx
      · rw [List.mem_singleton.1 hx]; exact hc
end Go.Proofs.YtmngghglcgmkeaaGreatDoor

namespace Go.Proofs.YtmngghglcgmkeaaGreatDoor
open Go.RowKit Go.Sort

def onDay (d : Int) (x : Ab) : Bool := decide (x.fr ≤ d) && decide (d < x.to)
/-- The absence of a day, without its span; of the kind -1 if there is none. -/
def atOf (Z : List Ab) (d : Int) : Ab := match Z.find? (onDay d) with
  | some x => ⟨0, 0, x.ki, x.pa, x.nn⟩
  | none => ⟨0, 0, -1, 0, 0⟩
theorem atOf_hit {Z : List Ab} {d : Int} {i : Nat} {x : Ab} (h : (Z.take i).find? (onDay d) = none) (hx : Z[i]? = some x) (hd : onDay d x = true) : atOf Z d = ⟨0, 0, x.ki, x.pa, x.nn⟩ := by
  have h1 : (Z.take (i + 1)).find? (onDay d) = some x := by
    rw [List.take_add_one, hx, List.find?_append, h]
    simp [hd]
  have h2 : Z.find? (onDay d) = some x := by
    have h3 := List.take_append_drop (i + 1) Z
    rw [← h3, List.find?_append, h1]
    rfl
  unfold atOf
  rw [h2]
theorem atOf_more {Z : List Ab} {d : Int} {i : Nat} {x : Ab} (h : (Z.take i).find? (onDay d) = none) (hx : Z[i]? = some x) (hd : onDay d x = false) : (Z.take (i + 1)).find? (onDay d) = none := by
  rw [List.take_add_one, hx, List.find?_append, h]
  simp [hd]
/-- What the closure answers. -/
def AtR (x : Ab) (w : World) (e : Ending) (w' : World) : Prop := e = .returned (.agg #[.int .i64 x.fr, .int .i64 x.to, .int .i64 x.ki, .int .i64 x.pa, .int .i64 x.nn]) ∧ Below w.heap.size w w'
theorem AtR.of {x y : Ab} {w w' : World} {e : Ending} (hxy : y = x) (he : e = .returned (.agg #[.int .i64 x.fr, .int .i64 x.to, .int .i64 x.ki, .int .i64 x.pa, .int .i64 x.nn])) (hb : Below w.heap.size w w') : AtR y w e w' := by
  subst hxy
  exact ⟨he, hb⟩
set_option maxHeartbeats 4000000 in
set_option maxRecDepth 100000 in
theorem la_at18 (Z : List Ab) (A : Option Addr) (c : Nat) (d : Int) (w : World) (hZ : Z.length ≤ 100000) (hs : Sl encAb 5 w w.heap.size A Z) :
    Calls Tryz.prog 14 #[.slice A Z.length c, .int .i64 d] w (AtR (atOf Z d) w) := by
  obtain ⟨ob, hob⟩ : ∃ x, w.heap.size = x := ⟨_, rfl⟩
  obtain ⟨w2, hw2⟩ : ∃ x, w.alloc (.cells #[.int .i64 0, .int .i64 0, .int .i64 0, .int .i64 0, .int .i64 0] 48) = x := ⟨_, rfl⟩
  have hb2 : Below w.heap.size w w2 := by rw [← hw2]; exact bAlloc _ _
  have HB2 := Lib.hid hb2
  have HBO : Hid (Bk ob 48 #[.int .i64 0, .int .i64 0, .int .i64 0, .int .i64 0, .int .i64 0] w2) := Lib.hid (by rw [← hw2, ← hob]; exact Bk.new _ _ _)
  have HS2 := Lib.hid (sl_bel hs hb2)
  have hoG : w.heap.size ≤ ob := by omega
  have HG := Lib.hid hoG
  have HE := Lib.hid (And.intro hob hw2)
  clear hob hw2 hb2 hs hoG
  go_enter Tryz.func14, Tryz.ntmps14
  go_upto_region 1 with fail
  rw [HE.out.1, HE.out.2]
  clear HE
  go_wp2
  go_loopw [9] (fun iv wr => ∃ i : Nat, i ≤ Z.length ∧ iv = .int .i64 i ∧ Hid ((Z.take i).find? (onDay d) = none) ∧ Hid (Below w2.heap.size w2 wr)) (fun iv _ => Z.length - (intOf iv).toNat)
  case atStart => exact ⟨0, Nat.zero_le _, rfl, Lib.hid (by simp), Lib.hid (Below.refl _ _)⟩
  case round =>
    obtain ⟨i, hi, rfl, HN, HB⟩ := hrel
    obtain ⟨wo, hwo⟩ : ∃ x : World, x = wr := ⟨_, rfl⟩
    subst hwo
    by_cases hlt : i < Z.length
    · obtain ⟨⟨xf, xt, xk, xp, xn⟩, hx⟩ : ∃ x, Z[i]? = some x := ⟨_, List.getElem?_eq_getElem hlt⟩
      obtain ⟨g, o, rfl, _, hat⟩ := HS2.out (by intro h; simp [h] at hlt)
      have C0 : wo.cell? ⟨g, o + i * 5, none⟩ = some (.int .i64 xf) := bCell HB.out (hat i _ hx 0 _ rfl)
      have C1 : wo.cell? ⟨g, o + i * 5 + 1, none⟩ = some (.int .i64 xt) := bCell HB.out (hat i _ hx 1 _ rfl)
      have C2 : wo.cell? ⟨g, o + i * 5 + 2, none⟩ = some (.int .i64 xk) := bCell HB.out (hat i _ hx 2 _ rfl)
      have C3 : wo.cell? ⟨g, o + i * 5 + 3, none⟩ = some (.int .i64 xp) := bCell HB.out (hat i _ hx 3 _ rfl)
      have C4 : wo.cell? ⟨g, o + i * 5 + 4, none⟩ = some (.int .i64 xn) := bCell HB.out (hat i _ hx 4 _ rfl)
      obtain ⟨xb, hxb⟩ : ∃ z, wo.heap.size = z := ⟨_, rfl⟩
      obtain ⟨wx, hwx⟩ : ∃ z, wo.alloc (.cells #[.int .i64 xf, .int .i64 xt, .int .i64 xk, .int .i64 xp, .int .i64 xn] 48) = z := ⟨_, rfl⟩
      have hbx : Below wo.heap.size wo wx := by rw [← hwx]; exact bAlloc _ _
      have hkx : Bk xb 48 #[.int .i64 xf, .int .i64 xt, .int .i64 xk, .int .i64 xp, .int .i64 xn] wx := by rw [← hwx, ← hxb]; exact Bk.new _ _ _
      have HBX : Hid (Below w2.heap.size w2 wx) := Lib.hid (bTrans HB.out hbx)
      have HKX := Lib.hid hkx
      have X0 : wx.cell? ⟨xb, 0, none⟩ = some (.int .i64 xf) := hkx.cell 0
      have X1 : wx.cell? ⟨xb, 1, none⟩ = some (.int .i64 xt) := hkx.cell 1
      have hob2 : ob < w2.heap.size := HBO.out.lt
      have hxg : w2.heap.size ≤ xb := by rw [← hxb]; exact HB.out.size
      have HXG := Lib.hid (And.intro hob2 hxg)
      have HHX := Lib.hid hx
      have hlt2 : (i : Int) < (Z.length : Int) := by omega
      have HE := Lib.hid (And.intro hxb hwx)
      clear hx hat hxb hwx hbx hkx HB hob2 hxg
      go_upto_region 4 with fail
      rw [HE.out.1, HE.out.2]
      clear HE C0 C1 C2 C3 C4
      obtain ⟨x1, d1⟩ : ∃ z, decide (xf ≤ d) = z := ⟨_, rfl⟩
      obtain ⟨x2, d2⟩ : ∃ z, decide (d < xt) = z := ⟨_, rfl⟩
      have HD : Hid (onDay d ⟨xf, xt, xk, xp, xn⟩ = (x1 && x2)) := Lib.hid (by unfold onDay; rw [d1, d2])
      by_cases h12 : x1 = true ∧ x2 = true
      · obtain ⟨rfl, rfl⟩ := h12
        have HAT : Hid (atOf Z d = ⟨0, 0, xk, xp, xn⟩) := Lib.hid (atOf_hit HN.out HHX.out HD.out)
        have hne : ob ≠ xb := by have := HXG.out; omega
        have hko : Bk ob 48 #[.int .i64 0, .int .i64 0, .int .i64 0, .int .i64 0, .int .i64 0] wx := bkB HBO.out HBX.out
        obtain ⟨wy, hwy⟩ : ∃ z, (wx.setCell ⟨xb, 0, none⟩ (.int .i64 0)).setCell ⟨xb, 1, none⟩ (.int .i64 0) = z := ⟨_, rfl⟩
        have hgy : wx.grownBy wy (some xb) := by rw [← hwy]; exact grown_trans (gSet _ _ _) (gSet _ _ _)
        have hky : Bk xb 48 #[.int .i64 0, .int .i64 0, .int .i64 xk, .int .i64 xp, .int .i64 xn] wy := by
          rw [← hwy]
          have h1 : Bk xb 48 #[.int .i64 0, .int .i64 xt, .int .i64 xk, .int .i64 xp, .int .i64 xn] _ := HKX.out.set_ 0 (.int .i64 0)
          exact h1.set_ 1 (.int .i64 0)
        have hoy : Bk ob 48 #[.int .i64 0, .int .i64 0, .int .i64 0, .int .i64 0, .int .i64 0] wy := hko.grownBy hgy (by intro e; injection e with e; exact hne e)
        have hby : Below w2.heap.size w2 wy := HBX.out.grown hgy HBX.out.size (fun j hj => by cases hj; exact HXG.out.2)
        obtain ⟨wz, hwz⟩ : ∃ z, ((((wy.setCell ⟨ob, 0, none⟩ (.int .i64 0)).setCell ⟨ob, 1, none⟩ (.int .i64 0)).setCell ⟨ob, 2, none⟩ (.int .i64 xk)).setCell ⟨ob, 3, none⟩ (.int .i64 xp)).setCell ⟨ob, 4, none⟩ (.int .i64 xn) = z := ⟨_, rfl⟩
        have hkz : Bk ob 48 #[.int .i64 0, .int .i64 0, .int .i64 xk, .int .i64 xp, .int .i64 xn] wz := by
          rw [← hwz]
          have h0 : Bk ob 48 #[.int .i64 0, .int .i64 0, .int .i64 0, .int .i64 0, .int .i64 0] _ := hoy.set_ 0 (.int .i64 0)
          have h1 : Bk ob 48 #[.int .i64 0, .int .i64 0, .int .i64 0, .int .i64 0, .int .i64 0] _ := h0.set_ 1 (.int .i64 0)
          have h2 : Bk ob 48 #[.int .i64 0, .int .i64 0, .int .i64 xk, .int .i64 0, .int .i64 0] _ := h1.set_ 2 (.int .i64 xk)
          have h3 : Bk ob 48 #[.int .i64 0, .int .i64 0, .int .i64 xk, .int .i64 xp, .int .i64 0] _ := h2.set_ 3 (.int .i64 xp)
          exact h3.set_ 4 (.int .i64 xn)
        have hgz : wy.grownBy wz (some ob) := by rw [← hwz]; exact grown_trans (grown_trans (grown_trans (grown_trans (gSet _ _ _) (gSet _ _ _)) (gSet _ _ _)) (gSet _ _ _)) (gSet _ _ _)
        have HFZ : Hid (Below w.heap.size w wz) := Lib.hid ((bTrans HB2.out hby).grown hgz (bTrans HB2.out hby).size (fun j hj => by cases hj; exact HG.out))
        have f0 := HKX.out.frozen 0
        have f1 := HKX.out.frozen 1
        have X2 := hky.cell 2
        have Y0 : wy.cell? ⟨xb, 0, none⟩ = some (.int .i64 0) := hky.cell 0
        have Y1 : wy.cell? ⟨xb, 1, none⟩ = some (.int .i64 0) := hky.cell 1
        have Y2 : wy.cell? ⟨xb, 2, none⟩ = some (.int .i64 xk) := hky.cell 2
        have Y3 : wy.cell? ⟨xb, 3, none⟩ = some (.int .i64 xp) := hky.cell 3
        have Y4 : wy.cell? ⟨xb, 4, none⟩ = some (.int .i64 xn) := hky.cell 4
        have O0 : wy.cell? ⟨ob, 0, none⟩ = some (.int .i64 0) := hoy.cell 0
        have O1 : wy.cell? ⟨ob, 1, none⟩ = some (.int .i64 0) := hoy.cell 1
        have O2 : wy.cell? ⟨ob, 2, none⟩ = some (.int .i64 0) := hoy.cell 2
        have O3 : wy.cell? ⟨ob, 3, none⟩ = some (.int .i64 0) := hoy.cell 3
        have O4 : wy.cell? ⟨ob, 4, none⟩ = some (.int .i64 0) := hoy.cell 4
        have g0 := hoy.frozen 0
        have g1 := hoy.frozen 1
        have g2 := hoy.frozen 2
        have g3 := hoy.frozen 3
        have g4 := hoy.frozen 4
        have Z0 : wz.cell? ⟨ob, 0, none⟩ = some (.int .i64 0) := hkz.cell 0
        have Z1 : wz.cell? ⟨ob, 1, none⟩ = some (.int .i64 0) := hkz.cell 1
        have Z2 : wz.cell? ⟨ob, 2, none⟩ = some (.int .i64 xk) := hkz.cell 2
        have Z3 : wz.cell? ⟨ob, 3, none⟩ = some (.int .i64 xp) := hkz.cell 3
        have Z4 : wz.cell? ⟨ob, 4, none⟩ = some (.int .i64 xn) := hkz.cell 4
        have HEY := Lib.hid hwy
        have HEZ := Lib.hid hwz
        clear hwy hwz hgy hgz hky hkz hoy hko hby X2
        go_upto_region 6 with fail
        rw [HEY.out]
        clear HEY X0 X1 f0 f1
        go_wp2
        rw [HEZ.out]
        clear HEZ
        exact bodyPost_ret (v := .agg #[.int .i64 0, .int .i64 0, .int .i64 xk, .int .i64 xp, .int .i64 xn]) (by simp [results, Tryz.results14, go_sem, Z0, Z1, Z2, Z3, Z4]) rfl (AtR.of HAT.out rfl HFZ.out)
      · have HNX : Hid ((Z.take (i + 1)).find? (onDay d) = none) := Lib.hid (atOf_more HN.out HHX.out (by
          rw [HD.out]
          cases x1 <;> cases x2 <;> simp at h12 ⊢))
        have hq : x1 = false ∨ (x1 = true ∧ x2 = false) := by
          cases x1 <;> cases x2 <;> simp at h12 ⊢
        clear h12 HD
        rcases hq with rfl | ⟨rfl, rfl⟩
        all_goals
          clear HKX
          go_wp2
          exact ⟨⟨i + 1, by omega, by go_num, HNX, HBX⟩, by simp [intOf]; omega⟩
    · obtain rfl : i = Z.length := by omega
      have HAT : Hid (atOf Z d = ⟨0, 0, -1, 0, 0⟩) := Lib.hid (by
        have h := HN.out
        rw [List.take_length] at h
        unfold atOf
        rw [h])
      have hge : ¬ (Z.length : Int) < (Z.length : Int) := by omega
      have hoy : Bk ob 48 #[.int .i64 0, .int .i64 0, .int .i64 0, .int .i64 0, .int .i64 0] wo := bkB HBO.out HB.out
      obtain ⟨wz, hwz⟩ : ∃ z, ((((wo.setCell ⟨ob, 0, none⟩ (.int .i64 0)).setCell ⟨ob, 1, none⟩ (.int .i64 0)).setCell ⟨ob, 2, none⟩ (.int .i64 (-1))).setCell ⟨ob, 3, none⟩ (.int .i64 0)).setCell ⟨ob, 4, none⟩ (.int .i64 0) = z := ⟨_, rfl⟩
      have hkz : Bk ob 48 #[.int .i64 0, .int .i64 0, .int .i64 (-1), .int .i64 0, .int .i64 0] wz := by
        rw [← hwz]
        have h0 : Bk ob 48 #[.int .i64 0, .int .i64 0, .int .i64 0, .int .i64 0, .int .i64 0] _ := hoy.set_ 0 (.int .i64 0)
        have h1 : Bk ob 48 #[.int .i64 0, .int .i64 0, .int .i64 0, .int .i64 0, .int .i64 0] _ := h0.set_ 1 (.int .i64 0)
        have h2 : Bk ob 48 #[.int .i64 0, .int .i64 0, .int .i64 (-1), .int .i64 0, .int .i64 0] _ := h1.set_ 2 (.int .i64 (-1))
        have h3 : Bk ob 48 #[.int .i64 0, .int .i64 0, .int .i64 (-1), .int .i64 0, .int .i64 0] _ := h2.set_ 3 (.int .i64 0)
        exact h3.set_ 4 (.int .i64 0)
      have hgz : wo.grownBy wz (some ob) := by rw [← hwz]; exact grown_trans (grown_trans (grown_trans (grown_trans (gSet _ _ _) (gSet _ _ _)) (gSet _ _ _)) (gSet _ _ _)) (gSet _ _ _)
      have HFZ : Hid (Below w.heap.size w wz) := Lib.hid ((bTrans HB2.out HB.out).grown hgz (bTrans HB2.out HB.out).size (fun j hj => by cases hj; exact HG.out))
      have O0 : wo.cell? ⟨ob, 0, none⟩ = some (.int .i64 0) := hoy.cell 0
      have O1 : wo.cell? ⟨ob, 1, none⟩ = some (.int .i64 0) := hoy.cell 1
      have O2 : wo.cell? ⟨ob, 2, none⟩ = some (.int .i64 0) := hoy.cell 2
      have O3 : wo.cell? ⟨ob, 3, none⟩ = some (.int .i64 0) := hoy.cell 3
      have O4 : wo.cell? ⟨ob, 4, none⟩ = some (.int .i64 0) := hoy.cell 4
      have g0 := hoy.frozen 0
      have g1 := hoy.frozen 1
      have g2 := hoy.frozen 2
      have g3 := hoy.frozen 3
      have g4 := hoy.frozen 4
      have Z0 : wz.cell? ⟨ob, 0, none⟩ = some (.int .i64 0) := hkz.cell 0
      have Z1 : wz.cell? ⟨ob, 1, none⟩ = some (.int .i64 0) := hkz.cell 1
      have Z2 : wz.cell? ⟨ob, 2, none⟩ = some (.int .i64 (-1)) := hkz.cell 2
      have Z3 : wz.cell? ⟨ob, 3, none⟩ = some (.int .i64 0) := hkz.cell 3
      have Z4 : wz.cell? ⟨ob, 4, none⟩ = some (.int .i64 0) := hkz.cell 4
      have HEZ := Lib.hid hwz
      clear hwz hgz hkz hoy hlt HN HB HBO
      go_wp2
      rw [HEZ.out]
      clear HEZ
      exact bodyPost_ret (v := .agg #[.int .i64 0, .int .i64 0, .int .i64 (-1), .int .i64 0, .int .i64 0]) (by simp [results, Tryz.results14, go_sem, Z0, Z1, Z2, Z3, Z4]) rfl (AtR.of HAT.out rfl HFZ.out)
end Go.Proofs.YtmngghglcgmkeaaGreatDoor

namespace Go.Proofs.YtmngghglcgmkeaaGreatDoor
open Go.RowKit Go.Sort

def triA (x : Ab) : Int × Int × Int := (x.ki, x.pa, x.nn)
def triJ (X : List Kn) (j : Int) : Int × Int × Int := ((kiB (coX X j)).1, (valL X j).2.1, (valL X j).1)
def ofTri : Option (Int × Int × Int) → Ab
  | some t => ⟨0, 0, t.1, t.2.1, t.2.2⟩
  | none => ⟨0, 0, -1, 0, 0⟩
theorem atOf_tri (Z : List Ab) (d : Int) : atOf Z d = ofTri ((Z.find? (onDay d)).map triA) := by
  unfold atOf
  cases Z.find? (onDay d) <;> rfl
/-- What stands on a day. -/
def vX (X : List Kn) (d : Int) : Ab := ofTri (if 0 ≤ plc X d X.length then some (triJ X (plc X d X.length)) else none)
theorem TiU.ahead {q : Int → Int} {X : List Kn} {F la e d : Int} {P : List (Int × Int × Int)} (h : TiU q F la P e) : d < F → ((P.filter fun p => decide (0 ≤ p.2.2)).map (abOf X)).find? (onDay d) = none := by
  induction h with
  | nil F la => intro _; rfl
  | @cons F la b e j P g1 g2 g3 _ ih =>
    intro hd
    rw [List.filter_cons]
    by_cases hj : 0 ≤ j
    · simp only [hj, decide_true, if_true, List.map_cons]
      rw [List.find?_cons]
      have h0 : onDay d (abOf X (F, b, j)) = false := by
        unfold onDay abOf
        rw [decide_eq_false (p := F ≤ d) (by omega)]
        rfl
      rw [h0]
      exact ih (by omega)
    · simp only [hj, decide_false, Bool.false_eq_true, if_false]
      exact ih (by omega)
theorem TiU.at_ {q : Int → Int} {X : List Kn} {F la e d : Int} {P : List (Int × Int × Int)} (h : TiU q F la P e) : F ≤ d → d < e → (((P.filter fun p => decide (0 ≤ p.2.2)).map (abOf X)).find? (onDay d)).map triA = if 0 ≤ q d then some (triJ X (q d)) else none := by
  induction h with
  | nil F la => intro h1 h2; omega
  | @cons F la b e j P g1 g2 g3 hr ih =>
    intro h1 h2
    rw [List.filter_cons]
    by_cases hb : d < b
    · have hq := g2 d h1 hb
      by_cases hj : 0 ≤ j
      · simp only [hj, decide_true, if_true, List.map_cons]
        rw [List.find?_cons]
        have h0 : onDay d (abOf X (F, b, j)) = true := by
          unfold onDay abOf
          rw [decide_eq_true (p := F ≤ d) h1, decide_eq_true hb]
          rfl
        rw [h0, hq, if_pos hj]
        rfl
      · simp only [hj, decide_false, Bool.false_eq_true, if_false]
        rw [hr.ahead hb, hq, if_neg hj]
        rfl
    · by_cases hj : 0 ≤ j
      · simp only [hj, decide_true, if_true, List.map_cons]
        rw [List.find?_cons]
        have h0 : onDay d (abOf X (F, b, j)) = false := by
          unfold onDay abOf
          rw [decide_eq_false hb, Bool.and_false]
        rw [h0]
        exact ih (by omega) h2
      · simp only [hj, decide_false, Bool.false_eq_true, if_false]
        exact ih (by omega) h2
theorem atOf_abs {X : List Kn} {F U d : Int} (h1 : F ≤ d) (h2 : d < U) : atOf (absX X F U) d = vX X d := by
  rw [atOf_tri]
  unfold absX strQ vX
  rw [(strL_tiu (X := X) (show F < U by omega)).at_ h1 h2]
theorem plc_appA (X Y : List Kn) (d : Int) : ∀ k, k ≤ X.length → plc (X ++ Y) d k = plc X d k
  | 0, _ => rfl
  | k + 1, h => by
    have ih := plc_appA X Y d k (by omega)
    obtain ⟨x, hx⟩ : ∃ x, X[k]? = some x := ⟨_, List.getElem?_eq_getElem (by omega)⟩
    have hx2 : (X ++ Y)[k]? = some x := by rw [List.getElem?_append_left (by omega)]; exact hx
    have hn : nAt (X ++ Y) (plc X d k) = nAt X (plc X d k) ∨ plc X d k < 0 := by
      rcases plc_bd X d k with h3 | ⟨j, h3, h4, h5⟩
      · right; omega
      · left
        unfold nAt
        rw [h3, Int.toNat_natCast, List.getElem?_append_left h5]
    rw [plc_succ hx2, plc_succ hx, ih]
    rcases hn with hn | hn
    · rw [hn]
    · rw [decide_eq_true hn, Bool.true_or, Bool.true_or]
theorem vX_more {X : List Kn} {n : Int} {f : Fa} (hn : ∀ x ∈ X, x.1 < n) (d : Int) : vX (X ++ [(n, f)]) d = if inB f d = true then ⟨0, 0, (kiB f.co).1, f.nu, n⟩ else vX X d := by
  have hx : (X ++ [(n, f)])[X.length]? = some (n, f) := by simp
  have hl : (X ++ [(n, f)]).length = X.length + 1 := by simp
  have hc : (decide (plc X d X.length < 0) || decide (nAt (X ++ [(n, f)]) (plc X d X.length) < n)) = true := by
    rcases plc_bd X d X.length with h3 | ⟨j, h3, h4, h5⟩
    · rw [decide_eq_true (p := plc X d X.length < 0) (by omega)]; rfl
    · have h6 : nAt (X ++ [(n, f)]) (plc X d X.length) < n := by
        unfold nAt
        rw [h3, Int.toNat_natCast, List.getElem?_append_left h5, List.getElem?_eq_getElem h5]
        exact hn _ (List.getElem_mem h5)
      rw [decide_eq_true h6, Bool.or_true]
  have hp : plc (X ++ [(n, f)]) d (X ++ [(n, f)]).length = if inB f d = true then (X.length : Int) else plc X d X.length := by
    rw [hl, plc_succ hx, plc_appA X _ d X.length (Nat.le_refl _), hc, Bool.and_true]
  unfold vX
  rw [hp]
  by_cases hi : inB f d = true
  · rw [if_pos hi, if_pos hi, if_pos (by omega)]
    unfold triJ coX valL ofTri
    rw [if_neg (by omega), Int.toNat_natCast, hx]
  · rw [if_neg hi, if_neg hi]
    rcases plc_bd X d X.length with h3 | ⟨j, h3, h4, h5⟩
    · rw [h3, if_neg (by omega), if_neg (by omega)]
    · rw [h3, if_pos (by omega), if_pos (by omega)]
      unfold triJ coX valL
      rw [if_neg (by omega), if_neg (by omega), Int.toNat_natCast, List.getElem?_append_left h5]
theorem kA_more {T : List Fa} {f : Fa} (h18 : ∀ g ∈ T, g.ki ≠ 18) (h7 : f.ki = 7) (hp : f.pe = 1) : kA (T ++ [f]) 1 = kA T 1 ++ [((T.length : Int) + 1, f)] := by
  have h18' : ∀ g ∈ T ++ [f], g.ki ≠ 18 := fun g hg => by
    rcases List.mem_append.1 hg with hg | hg
    · exact h18 g hg
    · rw [List.mem_singleton.1 hg]; omega
  unfold kA
  rw [List.length_append, List.length_singleton, chosen_succ (f := f) _ (by simp), taken_no h18']
  congr 1
  · unfold chosen
    refine fm_congr _ fun i hi => ?_
    rw [List.getElem?_append_left (List.mem_range.1 hi)]
    cases hx : T[i]? with
    | none => rfl
    | some g => simp only [taken_no h18, taken_no h18']
  · have : ofPK 1 7 f = true := by unfold ofPK; simp [h7, hp]
    simp [this]
theorem kA_low (T : List Fa) (pe : Int) : ∀ x ∈ kA T pe, x.1 < (T.length : Int) + 1 := fun x hx => by
  unfold kA chosen at hx
  rw [List.mem_filterMap] at hx
  obtain ⟨i, hi, h⟩ := hx
  have hi := List.mem_range.1 hi
  cases hf : T[i]? with
  | none => rw [hf] at h; cases h
  | some f =>
    rw [hf] at h
    simp only at h
    split at h
    · cases h
    · split at h
      · injection h with h
        subst h
        show ((i : Nat) : Int) + 1 < _
        omega
      · cases h
/-- An absence told more. -/
theorem over_law {T : List Fa} {f : Fa} (h18 : ∀ g ∈ T, g.ki ≠ 18) (h7 : f.ki = 7) (hp : f.pe = 1) {F U d : Int} (h1 : F ≤ d) (h2 : d < U) :
    atOf (absX (kA (T ++ [f]) 1) F U) d = if inB f d = true then ⟨0, 0, (kiB f.co).1, f.nu, (T.length : Int) + 1⟩ else atOf (absX (kA T 1) F U) d := by
  rw [atOf_abs h1 h2, atOf_abs h1 h2, kA_more h18 h7 hp, vX_more (kA_low T 1)]
end Go.Proofs.YtmngghglcgmkeaaGreatDoor

namespace Go.Proofs.YtmngghglcgmkeaaGreatDoor
open Go.RowKit Go.Sort

def spAy (Z : List Ab) : Sp := ⟨fun v w => ∃ A c, v = .tuple #[.slice A Z.length c, .int .i64 0] ∧ Sl encAb 5 w w.heap.size A Z, fun _ _ _ ⟨A, c, h1, h2⟩ hb => ⟨A, c, h1, sl_bel h2 hb⟩⟩
theorem few_fit {l : List Fa} (fl : ∀ f ∈ l, FitW f) (h : ∀ f ∈ l, f.ki ≠ 18 ∧ f.co.size ≤ 300 ∧ f.tx.size ≤ 300) : ∀ f ∈ l, Fit f := fun f hf => by
  have h1 := fl f hf
  have h2 := h f hf
  exact ⟨h1.id, h1.pe, h1.ki, h1.fr, h1.tO, h1.nu, by omega, by omega⟩
theorem with_cal {F U : Int} (h1 : -25567 ≤ F) (h2 : U ≤ 84006) : withB F U = true := by
  unfold withB calB
  by_cases h : U ≤ F
  · rw [decide_eq_true h]; rfl
  · rw [decide_eq_true (p := -25567 ≤ F) h1, decide_eq_true (p := F ≤ 84005) (by omega), decide_eq_true (p := -25567 ≤ U - 1) (by omega), decide_eq_true (p := U - 1 ≤ 84005) (by omega)]; simp
theorem told_le (l : List Fa) : (tellL [] l).length ≤ l.length := by
  have h := tellL_len l []
  simpa using h
theorem absX_le (X : List Kn) (F U : Int) (h : X.length ≤ 4096) : (absX X F U).length ≤ 10001 := by
  unfold absX strQ
  rw [List.length_map]
  exact Nat.le_trans (List.length_filter_le _ _) (strL_len F U h)
theorem bShift {P : World → Prop} {w0 w1 : World} (h : ∀ W, Below w0.heap.size w0 W → P W) (hb : Below w0.heap.size w0 w1) : ∀ W, Below w1.heap.size w1 W → P W := fun W hW => h W (bTrans hb hW)
section
variable {P : Program} {ops : Array Oper} {Q : Exit → Act → World → Prop} {SP : Nat → Value → World → Prop} {a0 : Act} {w0 : World} {o : Oper} {d : Nat}
theorem exec_callv {o : Oper} {f s : Nat} {ags : Array Operand} {ats : Array TypeId} (hop : o.op = .call { callee := .value (.tmp s), args := ags, argTypes := ats }) (a : Act) (hv : a.eval (.tmp s) = .func (.func f) #[] #[]) : execOp a.eval o = callFunc f (ags.map a.eval) := by
  obtain ⟨dst, op, ty, pos, after, guard⟩ := o
  simp only at hop
  subst hop
  refine Eq.trans (b := (do let d ← Deferred.ofValue (a.eval (.tmp s)) (ags.map a.eval); invoke d.target d.args)) rfl ?_
  rw [hv]
  refine Eq.trans (show _ = callFunc f (#[] ++ ags.map a.eval ++ #[]) from rfl) ?_
  simp
theorem opOk_callv {f s : Nat} {ags : Array Operand} {ats : Array TypeId} (argv : Act → Array Value) (hop : o.op = .call { callee := .value (.tmp s), args := ags, argTypes := ats }) (hd : o.dst = some d) (hg : GOk ops SP o) (hs : waitsB .any ops o s = true) (hf : ∀ v w, SP s v w → v = .func (.func f) #[] #[]) (hargs : ∀ a : Act, ags.map a.eval = argv a) (hent : ∀ args w, (callFunc f args).run P w = .ok (.enter f args) w)
    (h : ∀ (a : Act) w, Below w0.heap.size w0 w → (∀ t, waitsB .any ops o t = true → SP t (a.tmps.getD t undef) w) → Calls P f (argv a) w fun e w' => ∃ v, e = .returned v ∧ Below w.heap.size w w' ∧ SP d v w') : OpOk P .any ops Q SP a0 w0 o :=
  fun a w hb _ _ hsp => ⟨wanted_of hg hsp, by
    unfold Oper.wp
    rw [exec_callv hop a (hf _ _ (hsp s hs)), hargs a, hent]
    refine (h a w hb hsp).mono ?_
    rintro e w' ⟨v, rfl, hb', hsv⟩
    exact ⟨_, rfl, hb', fun e he => by rw [hd] at he; injection he with he; subst he; exact hsv⟩⟩
end
theorem eqAa (xf xt xk xp xn : Int) (w : World) : (binOp .neq 48 (.agg #[.int .i64 xf, .int .i64 xt, .int .i64 xk, .int .i64 xp, .int .i64 xn]) (.agg #[.int .i64 xf, .int .i64 xt, .int .i64 xk, .int .i64 xp, .int .i64 xn])).run Tryz.prog w = .ok (.bool false) w := by
  go_simp
/-- A fact without its ID. -/
def noId (f : Fa) : Fa := ⟨0, f.pe, f.ki, f.fr, f.to, f.co, f.nu, f.tx⟩
end Go.Proofs.YtmngghglcgmkeaaGreatDoor
