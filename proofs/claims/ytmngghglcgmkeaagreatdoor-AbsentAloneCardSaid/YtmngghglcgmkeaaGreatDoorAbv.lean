import Derived.Test.YtmngghglcgmkeaaGreatDoorAbk
/- AbsentAlone, without the program. -/
namespace Go.Proofs.YtmngghglcgmkeaaGreatDoor
open Go.RowKit Go.Sort

def shN (c : Nat) (x : Ab) : Ab := ⟨x.fr, x.to, x.ki, x.pa, x.nn + (c : Int)⟩
def shJ (c : Nat) (j : Int) : Int := if j < 0 then j else j + (c : Int)
theorem toMs_app (pe : Int) (A B : List Fa) : toMs pe (A ++ B) = toMs pe A ++ (toMs pe B).map (shN A.length) := by
  generalize hn : B.length = n
  induction n generalizing B with
  | zero =>
    obtain rfl := List.length_eq_zero_iff.1 hn
    simp [toMs]
  | succ n ih =>
    rcases B.eq_nil_or_concat with h | ⟨Q, q, h⟩
    · subst h; simp at hn
    · rw [List.concat_eq_append] at h
      subst h
      have hq : Q.length = n := by simpa using hn
      rw [← List.append_assoc, toMs_snoc, ih Q hq, toMs_snoc, List.map_append, List.append_assoc]
      congr 2
      by_cases h7 : q.ki = 7 ∧ q.pe = pe
      · rw [if_pos h7, if_pos h7]
        simp only [List.map_cons, List.map_nil, shN, List.length_append, List.length_singleton]
        congr 2
        omega
      · rw [if_neg h7, if_neg h7]
        rfl
theorem mem_toMs {pe : Int} {T : List Fa} {x : Ab} (h : x ∈ toMs pe T) : ∃ f ∈ T, f.ki = 7 ∧ f.pe = pe ∧ x.fr = f.fr ∧ x.to = f.to := by
  unfold toMs at h
  rw [List.mem_filterMap] at h
  obtain ⟨i, hi, h⟩ := h
  cases hf : T[i]? with
  | none => rw [hf] at h; cases h
  | some f =>
    rw [hf] at h
    simp only [toOne] at h
    by_cases h7 : f.ki = 7 ∧ f.pe = pe
    · rw [if_pos h7] at h
      injection h with h
      subst h
      exact ⟨f, List.mem_of_getElem? hf, h7.1, h7.2, rfl, rfl⟩
    · rw [if_neg h7] at h
      cases h
theorem atM_low {A B : List Ab} {d : Int} (hA : ∀ x ∈ A, pT x d = false) : ∀ k, k ≤ A.length → atM (A ++ B) d k = -1
  | 0, _ => rfl
  | k + 1, h => by
    have hx : (A ++ B)[k]? = some A[k] := by rw [List.getElem?_append_left (by omega), List.getElem?_eq_getElem (by omega)]
    rw [atM_succ hx, hA _ (List.getElem_mem _), Bool.false_and, if_neg (by simp), atM_low hA k (by omega)]
theorem atM_high {A M : List Ab} {d : Int} (c : Nat) (hA : ∀ x ∈ A, pT x d = false) : ∀ k, k ≤ M.length → atM (A ++ M.map (shN c)) d (A.length + k) = shJ A.length (atM M d k)
  | 0, _ => by
    rw [Nat.add_zero, atM_low hA _ (Nat.le_refl _)]
    rfl
  | k + 1, h => by
    have ih := atM_high (M := M) c hA k (by omega)
    obtain ⟨x, hx⟩ : ∃ x, M[k]? = some x := ⟨_, List.getElem?_eq_getElem (by omega)⟩
    have hx2 : (A ++ M.map (shN c))[A.length + k]? = some (shN c x) := by
      rw [List.getElem?_append_right (by omega), Nat.add_sub_cancel_left, List.getElem?_map, hx]
      rfl
    rw [← Nat.add_assoc, atM_succ hx2, atM_succ hx, ih]
    have hp : pT (shN c x) d = pT x d := rfl
    rw [hp]
    rcases atM_bd M d k with h3 | ⟨j, h3, h4, h5⟩
    · rw [h3]
      have e1 : shJ A.length (-1) = -1 := rfl
      rw [e1]
      simp only [show ((-1 : Int) < 0) from by decide, decide_true, Bool.true_or, Bool.and_true]
      by_cases hpx : pT x d = true
      · rw [if_pos hpx, if_pos hpx]
        unfold shJ
        rw [if_neg (by omega)]
        omega
      · rw [if_neg hpx, if_neg hpx, e1]
    · rw [h3]
      have e1 : shJ A.length (j : Int) = (j : Int) + (A.length : Int) := by unfold shJ; rw [if_neg (by omega)]
      have e2 : nnAt (A ++ M.map (shN c)) ((j : Int) + (A.length : Int)) = nnAt M (j : Int) + (c : Int) := by
        unfold nnAt
        have e3 : ((j : Int) + (A.length : Int)).toNat = A.length + j := by omega
        rw [e3, Int.toNat_natCast, List.getElem?_append_right (by omega), Nat.add_sub_cancel_left, List.getElem?_map, List.getElem?_eq_getElem h5]
        rfl
      have e4 : decide (nnAt (A ++ M.map (shN c)) ((j : Int) + (A.length : Int)) < (shN c x).nn) = decide (nnAt M (j : Int) < x.nn) := by
        rw [e2]
        exact decide_eq_decide.2 ⟨fun h => by unfold shN at h; simp only at h; omega, fun h => by unfold shN; simp only; omega⟩
      rw [e1, e4, decide_eq_false (p := (j : Int) + (A.length : Int) < 0) (by omega), decide_eq_false (p := (j : Int) < 0) (by omega), Bool.false_or]
      by_cases hb : (pT x d && decide (nnAt M (j : Int) < x.nn)) = true
      · rw [if_pos hb, if_pos hb]
        unfold shJ
        rw [if_neg (by omega)]
        omega
      · rw [if_neg hb, if_neg hb, e1]
def quA (x : Ab) : Int × Int × Int × Int := (x.fr, x.to, x.ki, x.pa)
theorem setTo_qu {O P : List Ab} (h : O.map quA = P.map quA) (e : Int) : (setTo O e).map quA = (setTo P e).map quA := by
  rcases O.eq_nil_or_concat with h1 | ⟨Q, q, h1⟩
  · subst h1
    have : P = [] := by simpa using h.symm
    subst this
    rfl
  · rw [List.concat_eq_append] at h1
    subst h1
    rcases P.eq_nil_or_concat with h2 | ⟨R, r, h2⟩
    · subst h2; simp at h
    · rw [List.concat_eq_append] at h2
      subst h2
      rw [List.map_append, List.map_append] at h
      obtain ⟨g1, g2⟩ := List.append_inj' h rfl
      rw [setTo_snoc, setTo_snoc, List.map_append, List.map_append, g1]
      simp only [List.map_cons, List.map_nil, quA, List.cons.injEq, Prod.mk.injEq, and_true] at g2 ⊢
      simp [g2.1, g2.2.2.1, g2.2.2.2]
theorem rf_shift {M1 M2 : List Ab} {F : Int} (c : Nat) (hm : ∀ j : Nat, j < M1.length → (mAt M2 ((j : Int) + c)).ki = (mAt M1 j).ki ∧ (mAt M2 ((j : Int) + c)).pa = (mAt M1 j).pa) :
    ∀ n : Nat, (∀ d, F ≤ d → d < F + n → atM M2 d M2.length = shJ c (atM M1 d M1.length)) → (rfN M2 F n).2 = shJ c (rfN M1 F n).2 ∧ (rfN M2 F n).1.map quA = (rfN M1 F n).1.map quA
  | 0, _ => ⟨rfl, rfl⟩
  | n + 1, h => by
    obtain ⟨h1, h2⟩ := rf_shift c hm n fun d g1 g2 => h d g1 (by omega)
    have hk := h (F + n) (by omega) (by omega)
    have hl := (rfN_bd M1 F n).2.2
    rw [rfN, rfN, hk]
    generalize rfN M2 F n = s2 at h1 h2 ⊢
    generalize rfN M1 F n = s1 at h1 h2 hl ⊢
    rcases atM_bd M1 (F + n) M1.length with h3 | ⟨j, h3, _, h5⟩
    · rw [h3]
      unfold rfS
      rw [if_neg (by unfold shJ; simp), if_neg (by omega)]
      exact ⟨rfl, h2⟩
    · rw [h3]
      have e1 : shJ c (j : Int) = (j : Int) + c := by unfold shJ; rw [if_neg (by omega)]
      unfold rfS
      rw [e1, if_pos (show 0 ≤ (j : Int) + c by omega), if_pos (show 0 ≤ (j : Int) by omega)]
      have e2 : ((j : Int) + c = s2.2) ↔ ((j : Int) = s1.2) := by
        rw [h1]
        unfold shJ
        rcases hl with hl | ⟨i, hl, _⟩
        · rw [hl, if_pos (by omega)]; omega
        · rw [hl, if_neg (by omega)]; omega
      by_cases hj : (j : Int) = s1.2
      · rw [if_pos (e2.2 hj), if_pos hj]
        exact ⟨e1.symm, setTo_qu h2 _⟩
      · rw [if_neg (fun e => hj (e2.1 e)), if_neg hj]
        refine ⟨e1.symm, ?_⟩
        simp only [List.map_append, List.map_cons, List.map_nil, h2]
        congr 1
        simp only [quA, (hm j h5).1, (hm j h5).2]
theorem addL_plainA {T : List Fa} {f : Fa} (hid : f.id = 0) (hk : f.ki ≠ 18) (hn : T.length < 4096) : (addL T f).1 = T ++ (if chkF f = 0 then [f] else []) := by
  unfold addL
  rw [if_neg (by omega)]
  by_cases hc : chkF f = 0
  · rw [if_neg (fun h => h hc), if_pos hc]
    have hp : placeI T f.id = -1 := by unfold placeI; rw [if_pos hid]
    rw [hp, if_neg (by omega)]
    have hcan : canE T f = 0 := by unfold canE; rw [if_pos hk]
    rw [if_neg (fun h => h hcan)]
  · rw [if_pos hc, if_neg hc, List.append_nil]
theorem tell_plainA : ∀ (l T : List Fa), (∀ f ∈ l, f.id = 0 ∧ f.ki ≠ 18) → T.length + l.length ≤ 4096 → tellL T l = T ++ l.filter fun f => decide (chkF f = 0)
  | [], T, _, _ => by rw [tellL_nil, List.filter_nil, List.append_nil]
  | f :: l, T, h, hn => by
    obtain ⟨h1, h2⟩ := h f (List.mem_cons_self ..)
    rw [List.length_cons] at hn
    have ha := addL_plainA h1 h2 (show T.length < 4096 by omega)
    rw [tellL_cons, ha, tell_plainA l _ (fun g hg => h g (List.mem_cons_of_mem _ hg)) (by split <;> simp <;> omega), List.filter_cons, List.append_assoc]
    congr 1
    by_cases hc : chkF f = 0
    · rw [if_pos hc, decide_eq_true hc, if_pos rfl]
      rfl
    · rw [if_neg hc, decide_eq_false hc, if_neg (by decide)]
      rfl
/-- A fact of which the span's days hear nothing. -/
def farF (F U : Int) (f : Fa) : Prop := f.ki ≠ 7 ∨ f.pe ≠ 1 ∨ U ≤ f.fr ∨ (f.to ≠ 0 ∧ f.to ≤ F)
theorem alone_law {O M : List Fa} {F U : Int} (h : ∀ f ∈ O ++ M, f.id = 0 ∧ f.ki ≠ 18) (hn : O.length + M.length ≤ 4096) (hO : ∀ f ∈ O, farF F U f) :
    (absX (kA (tellL [] (O ++ M)) 1) F U).map quA = (absX (kA (tellL [] M) 1) F U).map quA := by
  have hM : ∀ f ∈ M, f.id = 0 ∧ f.ki ≠ 18 := fun f hf => h f (List.mem_append_right _ hf)
  have e1 : tellL [] M = M.filter fun f => decide (chkF f = 0) := by rw [tell_plainA M [] hM (by simp; omega)]; rfl
  have e2 : tellL [] (O ++ M) = (O.filter fun f => decide (chkF f = 0)) ++ tellL [] M := by
    rw [tell_plainA _ [] h (by simp; omega), e1, List.filter_append]; rfl
  have c2 : ∀ f ∈ tellL [] (O ++ M), chkF f = 0 := tell_chkA _ _ (by simp)
  have c1 : ∀ f ∈ tellL [] M, chkF f = 0 := tell_chkA _ _ (by simp)
  have k2 : ∀ f ∈ tellL [] (O ++ M), f.ki ≠ 18 := tellL_all (p := fun f => f.ki ≠ 18) (by simp) (fun f hf => (h f hf).2)
  have k1 : ∀ f ∈ tellL [] M, f.ki ≠ 18 := tellL_all (p := fun f => f.ki ≠ 18) (by simp) (fun f hf => (hM f hf).2)
  rw [← tells_law k2 c2, ← tells_law k1 c1, e2, toMs_app]
  generalize tellL [] M = T1
  generalize hA : toMs 1 (O.filter fun f => decide (chkF f = 0)) = A
  generalize toMs 1 T1 = M1
  have hA2 : ∀ d, F ≤ d → d < U → ∀ x ∈ A, pT x d = false := fun d h1 h2 x hx => by
    rw [← hA] at hx
    obtain ⟨f, hf, q1, q2, q3, q4⟩ := mem_toMs hx
    unfold pT
    rw [q3, q4]
    rcases hO f (List.mem_filter.1 hf).1 with g | g | g | ⟨g1, g2⟩
    · exact absurd q1 g
    · exact absurd q2 g
    · rw [decide_eq_false (by omega), Bool.false_and]
    · rw [decide_eq_false g1, decide_eq_false (p := d < f.to) (by omega), Bool.or_self, Bool.and_false]
  refine (rf_shift A.length (fun j hj => ?_) _ fun d h1 h2 => ?_).2
  · unfold mAt
    have e3 : ((j : Int) + (A.length : Int)).toNat = A.length + j := by omega
    rw [e3, Int.toNat_natCast, List.getElem?_append_right (by omega), Nat.add_sub_cancel_left, List.getElem?_map, List.getElem?_eq_getElem hj]
    exact ⟨rfl, rfl⟩
  · have hd : d < U := by omega
    have := atM_high (M := M1) (O.filter fun f => decide (chkF f = 0)).length (hA2 d h1 hd) M1.length (Nat.le_refl _)
    rwa [List.length_append, List.length_map]
end Go.Proofs.YtmngghglcgmkeaaGreatDoor
