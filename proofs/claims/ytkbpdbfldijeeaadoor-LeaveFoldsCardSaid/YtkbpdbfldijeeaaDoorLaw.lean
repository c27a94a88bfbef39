/- The plain laws of the account: sums, later moves, turned moves, joined moves. -/
import Derived.Test.YtkbpdbfldijeeaaDoorReg
namespace Go.Proofs.YtkbpdbfldijeeaaDoor

/-- What it is to be right. -/
structure Right (yr ca ex un : Int) (l : List Mv) : Prop where
  plan : ¬ noPlan yr ca ex
  day : ¬ (un < -25567 ∨ 84005 < un)
  few : ¬ 4096 < l.length
  each : ∀ x ∈ l, ¬ early yr x.1 ∧ ¬ unfit x
  ord : l.Pairwise fun x y => x.1 ≤ y.1
theorem right_of {yr ca ex un : Int} {l : List Mv} (h : chkV yr ca ex un l = 0) : Right yr ca ex un l := by
  obtain ⟨hp, hz⟩ := chkV_zero h
  refine ⟨hp.plan, hp.day, hp.few, fun x hx => ?_, (rt_of h).1.ord⟩
  obtain ⟨i, hi⟩ := List.mem_iff_getElem?.1 hx
  have := badM_zero hi (hz i (List.getElem?_eq_some_iff.1 hi).1)
  exact ⟨this.1, this.2.1⟩
theorem chk_of {yr ca ex un : Int} {l : List Mv} (h : Right yr ca ex un l) : chkV yr ca ex un l = 0 := by
  refine (chkM_ok ⟨h.plan, h.day, h.few⟩ (fun j hj => ?_) rfl).symm
  have hx := List.getElem?_eq_getElem hj
  have h1 := h.each _ (List.getElem_mem hj)
  refine badM_fine hx h1.1 (fun ⟨h0, hlt⟩ => ?_) h1.2
  have hj1 : j - 1 < l.length := by omega
  rw [dayOf_at (List.getElem?_eq_getElem hj1)] at hlt
  have := List.pairwise_iff_getElem.1 h.ord (j - 1) j hj1 hj (by omega)
  omega

/-- The deeds that a day lets be done. -/
theorem foldF_inv {yr ca ex un : Int} {l : List Mv} (h : Right yr ca ex un l) : Inv (allOps ex yr l).length (foldF yr ca ex un l) := by
  have hp := h.plan
  unfold noPlan at hp
  have := inv_run (ca := ca) (ex := ex) (un := un) (by omega) (allOps ex yr l) 0 fo0 inv0 (fun x hx => by
    have hx := (ss_perm (lt := ltO) _).mem_iff.1 hx
    rcases List.mem_append.1 hx with hx | hx
    · rw [← yearsDe_o] at hx
      obtain ⟨y, hy, rfl⟩ := List.mem_map.1 hx
      show y.op.fine
      rcases fine_years y hy with h | h <;> (rw [h]; trivial)
    · obtain ⟨y, hy, rfl⟩ := mem_moveOps hx
      have := (h.each y hy).2
      unfold unfit at this
      exact ⟨by omega, by omega, by omega, by omega⟩)
  rwa [Nat.zero_add] at this
theorem runO_e {ca ex un : Int} : ∀ (L : List (Int × Op)) (s : Fo), (∀ x ∈ L, x.1 ≤ un → ∃ gr tk, x.2 = .move gr tk) → (runO ca ex un L s).e = s.e
  | [], _, _ => rfl
  | x :: L, s, h => by
    rw [runO_cons, runO_e L _ (fun y hy => h y (by simp [hy]))]
    unfold stepO
    split
    · rename_i hu
      obtain ⟨gr, tk, he⟩ := h x (by simp) hu
      rw [he]; rfl
    · rfl
/-- Within the first year nothing is lost. -/
theorem foldF_first {yr ca ex un : Int} {l : List Mv} (hu : un < Cal.st (yr + 1) - 25567) : (foldF yr ca ex un l).e = 0 := by
  refine runO_e _ _ (fun x hx hxu => ?_)
  have hx := (ss_perm (lt := ltO) _).mem_iff.1 hx
  rcases List.mem_append.1 hx with hx | hx
  · rw [← Tm_years] at hx
    have h1 := Tm_ge _ _ x hx
    have e1 : yrM yr 12 = yr + 1 := by unfold yrM; omega
    have e2 : moM 12 = 1 := by unfold moM; omega
    unfold dM at h1
    rw [e1, e2, Cal.cum_1] at h1
    omega
  · obtain ⟨y, _, rfl⟩ := mem_moveOps hx
    exact ⟨_, _, rfl⟩

/-- Moves behind the day change nothing. -/
theorem takeM_late {un e : Int} : ∀ (A B : List Mv) (s : Fo), (∀ x ∈ B, un < x.1) → takeM un e s (A ++ B) = ((takeM un e s A).1, (takeM un e s A).2 ++ B)
  | [], [], s, _ => rfl
  | [], x :: B, s, h => by
    have := h x (by simp)
    show takeM un e s (x :: B) = (s, x :: B)
    unfold takeM
    rw [if_neg (by omega)]
  | a :: A, B, s, h => by
    show takeM un e s (a :: (A ++ B)) = _
    unfold takeM
    split
    · exact takeM_late A B _ h
    · rfl
theorem refR_late {yr ca ex un : Int} {B : List Mv} (h : ∀ x ∈ B, un < x.1) : ∀ (k i : Nat) (s : Fo) (A : List Mv), refR yr ca ex un k i s (A ++ B) = refR yr ca ex un k i s A
  | 0, _, _, _ => rfl
  | k + 1, i, s, A => by
    unfold refR
    split
    · rfl
    · rw [takeM_late A B _ h]
      exact refR_late h k (i + 1) _ _
theorem foldF_late {yr ca ex un : Int} {A B : List Mv} (h : Right yr ca ex un (A ++ B)) (hB : ∀ x ∈ B, un < x.1) : Right yr ca ex un A ∧ foldF yr ca ex un (A ++ B) = foldF yr ca ex un A := by
  have hA : Right yr ca ex un A := ⟨h.plan, h.day, by have := h.few; rw [List.length_append] at this; omega, fun x hx => h.each x (by simp [hx]), (List.pairwise_append.1 h.ord).1⟩
  exact ⟨hA, by rw [foldF_eq (chk_of h), foldF_eq (chk_of hA), refR_late hB]⟩

/-- What is granted and taken in all. -/
def gsum (l : List Mv) : Int := (l.map fun x => x.2.1).sum
def tsum (l : List Mv) : Int := (l.map fun x => x.2.2).sum
theorem gsum_snoc (l : List Mv) (x : Mv) : gsum (l ++ [x]) = gsum l + x.2.1 := by simp [gsum]
theorem tsum_snoc (l : List Mv) (x : Mv) : tsum (l ++ [x]) = tsum l + x.2.2 := by simp [tsum]
theorem gsum_bd {l : List Mv} (h : ∀ x ∈ l, ¬ unfit x) : 0 ≤ gsum l ∧ gsum l ≤ 1000000 * l.length ∧ 0 ≤ tsum l ∧ tsum l ≤ 1000000 * l.length := by
  induction l with
  | nil => simp [gsum, tsum]
  | cons x l ih =>
    have h1 := ih (fun y hy => h y (by simp [hy]))
    have h2 := h x (by simp)
    unfold unfit at h2
    simp only [gsum, tsum, List.map_cons, List.sum_cons, List.length_cons] at h1 ⊢
    omega
theorem takeM_g {un e : Int} : ∀ (M : List Mv) (s : Fo), (takeM un e s M).1.g + gsum (takeM un e s M).2 = s.g + gsum M ∧ (takeM un e s M).1.t + tsum (takeM un e s M).2 = s.t + tsum M
  | [], s => ⟨rfl, rfl⟩
  | x :: M, s => by
    unfold takeM
    split
    · have h1 := takeM_g (un := un) (e := e) M (moveV x.2.1 x.2.2 s)
      simp only [gsum, tsum, List.map_cons, List.sum_cons] at h1 ⊢
      simp only [moveV] at h1 ⊢
      omega
    · exact ⟨rfl, rfl⟩
theorem evS_g (yr ca ex : Int) (i : Nat) (s : Fo) : (evS yr ca ex i s).g = s.g ∧ (evS yr ca ex i s).t = s.t := by
  have h1 : (evT yr ca i s).g = s.g ∧ (evT yr ca i s).t = s.t := by
    unfold evT
    split
    · unfold keepV loseV
      simp only
      split <;> exact ⟨rfl, rfl⟩
    · exact ⟨rfl, rfl⟩
  unfold evS
  split
  · exact h1
  · exact h1
/-- All that are not behind the day are taken in. -/
theorem refR_g {yr ca ex un : Int} : ∀ (k i : Nat) (s : Fo) (M : List Mv), Rt M → (∀ x ∈ M, dM yr i ≤ x.1 ∧ x.1 < dM yr (i + k) ∧ x.1 ≤ un) → (refR yr ca ex un k i s M).g = s.g + gsum M ∧ (refR yr ca ex un k i s M).t = s.t + tsum M
  | 0, i, s, M, _, hb => by
    have : M = [] := by
      cases M with
      | nil => rfl
      | cons x M => have := hb x (by simp); simp at this; omega
    subst this
    simp [refR, gsum, tsum]
  | k + 1, i, s, M, hr, hb => by
    unfold refR
    split
    · rename_i hu
      have : M = [] := by
        cases M with
        | nil => rfl
        | cons x M => have := hb x (by simp); omega
      subst this
      simp [gsum, tsum]
    · obtain ⟨A, B, hM, hB, _, ha, hbb⟩ := takeM_split un (dM yr (i + 1)) M (evS yr ca ex i s) hr
      have h1 := takeM_g (un := un) (e := dM yr (i + 1)) M (evS yr ca ex i s)
      have h2 := evS_g yr ca ex i s
      have h3 := refR_g (yr := yr) (ca := ca) (ex := ex) (un := un) k (i + 1) (takeM un (dM yr (i + 1)) (evS yr ca ex i s) M).1 (takeM un (dM yr (i + 1)) (evS yr ca ex i s) M).2
        (by rw [hB]; rw [hM] at hr; exact ⟨fun x hx => hr.fit x (by simp [hx]), (List.pairwise_append.1 hr.ord).2.1⟩)
        (fun x hx => by
          rw [hB] at hx
          have h4 := hb x (by rw [hM]; simp [hx])
          have h5 := hbb x hx
          refine ⟨by omega, ?_, h4.2.2⟩
          have := h4.2.1
          rwa [show i + (k + 1) = i + 1 + k by omega] at this)
      omega
theorem days_in {yr ca ex un : Int} {l : List Mv} (h : Right yr ca ex un l) : ∀ x ∈ l, dM yr 0 ≤ x.1 ∧ x.1 < dM yr (0 + 12 * (2200 - yr).toNat) := by
  intro x hx
  have hp := h.plan
  unfold noPlan at hp
  have h1 := (rt_of (chk_of h)).2 x hx
  constructor
  · unfold dM yrM moM; simp [Cal.cum_1]; omega
  · have e1 : yrM yr (0 + 12 * (2200 - yr).toNat) = 2200 := by unfold yrM; omega
    have e2 : moM (0 + 12 * (2200 - yr).toNat) = 1 := by unfold moM; omega
    unfold dM
    rw [e1, e2, Cal.cum_1, Cal.st_2200]
    omega
theorem foldF_g {yr ca ex un : Int} {l : List Mv} (h : Right yr ca ex un l) (hu : ∀ x ∈ l, x.1 ≤ un) : (foldF yr ca ex un l).g = gsum l ∧ (foldF yr ca ex un l).t = tsum l := by
  rw [foldF_eq (chk_of h)]
  have := refR_g (yr := yr) (ca := ca) (ex := ex) (un := un) (12 * (2200 - yr).toNat) 0 fo0 l (rt_of (chk_of h)).1 (fun x hx => ⟨(days_in h x hx).1, (days_in h x hx).2, hu x hx⟩)
  simpa [fo0] using this

/-- Two stretches of moves of one day that do the same, each taken whole or not at all. -/
def Same (X Y : List Mv) (d : Int) : Prop := (∀ x ∈ X, x.1 = d) ∧ (∀ y ∈ Y, y.1 = d) ∧ X ≠ [] ∧ Y ≠ [] ∧
  ∀ s : Fo, 0 ≤ s.cr → X.foldl (fun s x => moveV x.2.1 x.2.2 s) s = Y.foldl (fun s x => moveV x.2.1 x.2.2 s) s
theorem takeM_whole {un e d : Int} : ∀ (X Q : List Mv) (s : Fo), (∀ x ∈ X, x.1 = d) → (d < e ∧ d ≤ un) → takeM un e s (X ++ Q) = takeM un e (X.foldl (fun s x => moveV x.2.1 x.2.2 s) s) Q
  | [], Q, s, _, _ => rfl
  | x :: X, Q, s, h, hd => by
    have := h x (by simp)
    have e1 : takeM un e s (x :: (X ++ Q)) = takeM un e (moveV x.2.1 x.2.2 s) (X ++ Q) := by
      conv => lhs; unfold takeM
      rw [if_pos (by omega)]
    show takeM un e s (x :: (X ++ Q)) = _
    rw [e1]
    exact takeM_whole X Q _ (fun y hy => h y (by simp [hy])) hd
theorem takeM_stop {un e d : Int} : ∀ (X Q : List Mv) (s : Fo), X ≠ [] → (∀ x ∈ X, x.1 = d) → ¬ (d < e ∧ d ≤ un) → takeM un e s (X ++ Q) = (s, X ++ Q)
  | [], _, _, h0, _, _ => absurd rfl h0
  | x :: X, Q, s, _, h, hd => by
    have := h x (by simp)
    show takeM un e s (x :: (X ++ Q)) = _
    unfold takeM
    rw [if_neg (by omega)]
    rfl
theorem moveV_cr (gr tk : Int) (s : Fo) : 0 ≤ (moveV gr tk s).cr := by simp only [moveV]; omega
/-- Either both stretches are still to come, or what is left is the same. -/
theorem takeM_same {un e d : Int} {X Y Q : List Mv} (h : Same X Y d) : ∀ (P : List Mv) (s : Fo), 0 ≤ s.cr →
    (∃ P', (takeM un e s (P ++ (X ++ Q))).2 = P' ++ (X ++ Q) ∧ (takeM un e s (P ++ (Y ++ Q))).2 = P' ++ (Y ++ Q) ∧ (takeM un e s (P ++ (X ++ Q))).1 = (takeM un e s (P ++ (Y ++ Q))).1 ∧ 0 ≤ (takeM un e s (P ++ (X ++ Q))).1.cr) ∨
    takeM un e s (P ++ (X ++ Q)) = takeM un e s (P ++ (Y ++ Q))
  | [], s, h0 => by
    by_cases hd : d < e ∧ d ≤ un
    · refine .inr ?_
      show takeM un e s (X ++ Q) = takeM un e s (Y ++ Q)
      rw [takeM_whole X Q s h.1 hd, takeM_whole Y Q s h.2.1 hd, h.2.2.2.2 s h0]
    · refine .inl ⟨[], ?_⟩
      simp only [List.nil_append]
      rw [takeM_stop X Q s h.2.2.1 h.1 hd, takeM_stop Y Q s h.2.2.2.1 h.2.1 hd]
      exact ⟨rfl, rfl, rfl, h0⟩
  | x :: P, s, h0 => by
    simp only [List.cons_append]
    by_cases hx : x.1 < e ∧ x.1 ≤ un
    · have e1 : ∀ M, takeM un e s (x :: M) = takeM un e (moveV x.2.1 x.2.2 s) M := fun M => by
        conv => lhs; unfold takeM
        rw [if_pos hx]
      rw [e1, e1]
      exact takeM_same h P _ (moveV_cr _ _ _)
    · have e1 : ∀ M, takeM un e s (x :: M) = (s, x :: M) := fun M => by
        conv => lhs; unfold takeM
        rw [if_neg hx]
      rw [e1, e1]
      exact .inl ⟨x :: P, rfl, rfl, rfl, h0⟩
theorem evS_c0 {yr ca ex : Int} {i : Nat} {s : Fo} (hca : 0 ≤ ca) (h : 0 ≤ s.cr) : 0 ≤ (evS yr ca ex i s).cr := by
  have h1 : 0 ≤ (evT yr ca i s).cr := by
    unfold evT
    split
    · unfold keepV
      split
      · rename_i hf; simp only [loseV] at hf ⊢; omega
      · simp [loseV]
    · exact h
  unfold evS
  split
  · simp [loseV]
  · exact h1
theorem refR_same {yr ca ex un d : Int} (hca : 0 ≤ ca) {X Y Q : List Mv} (h : Same X Y d) : ∀ (k i : Nat) (s : Fo) (P : List Mv), 0 ≤ s.cr → refR yr ca ex un k i s (P ++ (X ++ Q)) = refR yr ca ex un k i s (P ++ (Y ++ Q))
  | 0, _, _, _, _ => rfl
  | k + 1, i, s, P, h0 => by
    unfold refR
    split
    · rfl
    · rcases takeM_same (un := un) (e := dM yr (i + 1)) (Q := Q) h P (evS yr ca ex i s) (evS_c0 hca h0) with ⟨P', h1, h2, h3, h4⟩ | h1
      · rw [h1, h2, ← h3]
        exact refR_same hca h k (i + 1) _ P' h4
      · rw [h1]
theorem foldF_same {yr ca ex un d : Int} {X Y P Q : List Mv} (h : Same X Y d) (h1 : Right yr ca ex un (P ++ (X ++ Q))) (h2 : Right yr ca ex un (P ++ (Y ++ Q))) : foldF yr ca ex un (P ++ (X ++ Q)) = foldF yr ca ex un (P ++ (Y ++ Q)) := by
  have hp := h1.plan
  unfold noPlan at hp
  rw [foldF_eq (chk_of h1), foldF_eq (chk_of h2)]
  exact refR_same (by omega) h _ _ _ _ (by simp [fo0])
/-- Two of one day that only grant, or only take. -/
theorem same_turn {x y : Mv} (hd : x.1 = y.1) (hx : ¬ unfit x) (hy : ¬ unfit y) (h : x.2.1 + y.2.1 = 0 ∨ x.2.2 + y.2.2 = 0) : Same [x, y] [y, x] x.1 := by
  unfold unfit at hx hy
  refine ⟨fun z hz => ?_, fun z hz => ?_, by simp, by simp, fun s hs => ?_⟩
  · simp at hz; rcases hz with rfl | rfl <;> omega
  · simp at hz; rcases hz with rfl | rfl <;> omega
  · simp only [List.foldl_cons, List.foldl_nil, moveV]
    obtain ⟨a, b, c, d, e, f⟩ := s
    simp only at hs ⊢
    congr 1 <;> omega
/-- One that grants, cut in two. -/
theorem same_cut {d gr tk : Int} (ht : 0 ≤ tk) : Same [(d, gr, tk)] [(d, gr / 2, 0), (d, gr - gr / 2, tk)] d := by
  refine ⟨fun z hz => ?_, fun z hz => ?_, by simp, by simp, fun s hs => ?_⟩
  · simp at hz; rw [hz]
  · simp at hz; rcases hz with rfl | rfl <;> rfl
  · simp only [List.foldl_cons, List.foldl_nil, moveV]
    obtain ⟨a, b, c, e, f, g⟩ := s
    simp only at hs ⊢
    congr 1 <;> omega

/-- One has no more than the other. -/
structure Les (s t : Fo) : Prop where
  e : s.e ≤ t.e
  f : s.fr ≤ t.fr
  c : s.cr ≤ t.cr
theorem Les.refl (s : Fo) : Les s s := ⟨Int.le_refl _, Int.le_refl _, Int.le_refl _⟩
theorem Les.move {s t : Fo} (h : Les s t) {g g' k : Int} (hg : g ≤ g') : Les (moveV g k s) (moveV g' k t) := by
  obtain ⟨a, b, c⟩ := h
  constructor <;> simp only [moveV] <;> omega
theorem Les.lose {s t : Fo} (h : Les s t) : Les (loseV s) (loseV t) := by
  obtain ⟨a, b, c⟩ := h
  constructor <;> simp only [loseV] <;> omega
theorem Les.keep {s t : Fo} {ca : Int} (hca : 0 ≤ ca) (h : Les s t) (hs : s.cr = 0) : Les (keepV ca s) (keepV ca t) := by
  obtain ⟨a, b, c⟩ := h
  unfold keepV
  split <;> split <;> constructor <;> (try simp only) <;> omega
theorem Les.ev {s t : Fo} {yr ca ex : Int} {i : Nat} (hca : 0 ≤ ca) (h : Les s t) : Les (evS yr ca ex i s) (evS yr ca ex i t) := by
  have h1 : Les (evT yr ca i s) (evT yr ca i t) := by
    unfold evT
    split
    · exact (h.lose).keep hca rfl
    · exact h
  unfold evS
  split
  · exact h1.lose
  · exact h1
/-- Moves of the same days, of which one grants no more. -/
def LesM (M M' : List Mv) : Prop := M.length = M'.length ∧ ∀ (i : Nat) (x y : Mv), M[i]? = some x → M'[i]? = some y → x.1 = y.1 ∧ x.2.1 ≤ y.2.1 ∧ x.2.2 = y.2.2
theorem LesM.tail {x y : Mv} {M M' : List Mv} (h : LesM (x :: M) (y :: M')) : LesM M M' := ⟨by have := h.1; simp at this; exact this, fun i a b ha hb => h.2 (i + 1) a b (by simpa using ha) (by simpa using hb)⟩
theorem takeM_les {un e : Int} : ∀ (M M' : List Mv) (s t : Fo), LesM M M' → Les s t → Les (takeM un e s M).1 (takeM un e t M').1 ∧ LesM (takeM un e s M).2 (takeM un e t M').2
  | [], [], s, t, _, h => ⟨h, rfl, fun i x y hx => by simp [takeM] at hx⟩
  | [], y :: M', _, _, hm, _ => by have := hm.1; simp at this
  | x :: M, [], _, _, hm, _ => by have := hm.1; simp at this
  | x :: M, y :: M', s, t, hm, h => by
    have h1 := hm.2 0 x y rfl rfl
    unfold takeM
    by_cases hx : x.1 < e ∧ x.1 ≤ un
    · rw [if_pos hx, if_pos (by omega)]
      exact takeM_les M M' _ _ hm.tail (by rw [h1.2.2]; exact h.move h1.2.1)
    · rw [if_neg hx, if_neg (by omega)]
      exact ⟨h, hm⟩
theorem refR_les {yr ca ex un : Int} (hca : 0 ≤ ca) : ∀ (k i : Nat) (s t : Fo) (M M' : List Mv), LesM M M' → Les s t → Les (refR yr ca ex un k i s M) (refR yr ca ex un k i t M')
  | 0, _, _, _, _, _, _, h => h
  | k + 1, i, s, t, M, M', hm, h => by
    unfold refR
    split
    · exact h
    · have := takeM_les (un := un) (e := dM yr (i + 1)) M M' _ _ hm (h.ev (yr := yr) (ca := ca) (ex := ex) (i := i) hca)
      exact refR_les hca k (i + 1) _ _ _ _ this.2 this.1
theorem foldF_les {yr ca ex un : Int} {M M' : List Mv} (hm : LesM M M') (h1 : Right yr ca ex un M) (h2 : Right yr ca ex un M') : Les (foldF yr ca ex un M) (foldF yr ca ex un M') := by
  have hp := h1.plan
  unfold noPlan at hp
  rw [foldF_eq (chk_of h1), foldF_eq (chk_of h2)]
  exact refR_les (by omega) _ _ _ _ _ _ hm (Les.refl _)
end Go.Proofs.YtkbpdbfldijeeaaDoor
