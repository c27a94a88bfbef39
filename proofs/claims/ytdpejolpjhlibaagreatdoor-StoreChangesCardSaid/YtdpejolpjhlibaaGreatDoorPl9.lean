import Derived.Test.YtdpejolpjhlibaaGreatDoorCh9
/- What the document says is changed is what the program says: the plain law. -/
namespace Go.Proofs.YtdpejolpjhlibaaGreatDoor
open Go.RowKit Go.Sort

theorem flatMap_same {α β : Type} : ∀ {l : List α} {f g : α → List β}, (∀ x ∈ l, f x = g x) → l.flatMap f = l.flatMap g
  | [], _, _, _ => rfl
  | x :: l, f, g, h => by
    rw [List.flatMap_cons, List.flatMap_cons, h x (by simp), flatMap_same fun y hy => h y (List.mem_cons_of_mem _ hy)]
/-- By the numbers from a on, n of them. -/
def bks (W : List Kn) (a n : Nat) : List Kn := (List.range' a n).flatMap fun (i : Nat) => W.filter fun x => decide (x.1 = ((i : Nat) : Int) + 1)
theorem bks_mem {W : List Kn} {a n : Nat} {x : Kn} (h : x ∈ bks W a n) : ((a : Int) + 1 ≤ x.1 ∧ x.1 ≤ (a : Int) + n) := by
  obtain ⟨i, hi, hx⟩ := List.mem_flatMap.1 h
  have h1 := List.mem_range'_1.1 hi
  have h2 := (List.mem_filter.1 hx).2
  rw [decide_eq_true_eq] at h2
  omega
theorem bks_add (W : List Kn) (a n m : Nat) : bks W a (n + m) = bks W a n ++ bks W (a + n) m := by
  unfold bks
  have := List.range'_append_1 (s := a) (m := n) (n := m)
  rw [← this, List.flatMap_append]
theorem bks_out {W : List Kn} {a n : Nat} {x : Kn} (h : x.1 < (a : Int) + 1 ∨ (a : Int) + n < x.1) : bks (W ++ [x]) a n = bks W a n := by
  unfold bks
  refine flatMap_same ?_
  intro i hi
  have h1 := List.mem_range'_1.1 hi
  rw [List.filter_append]
  have : [x].filter (fun y => decide (y.1 = ((i : Nat) : Int) + 1)) = [] := by
    rw [List.filter_eq_nil_iff]
    intro y hy
    rw [List.mem_singleton.1 hy, decide_eq_true_eq]
    omega
  rw [this, List.append_nil]
theorem bks_one (W : List Kn) (j : Nat) : bks W j 1 = W.filter fun x => decide (x.1 = (j : Int) + 1) := by
  unfold bks
  simp
theorem ss_bks : ∀ (r : List Kn) (W : List Kn) (K : Nat), W = r.reverse → (∀ x ∈ W, 1 ≤ x.1 ∧ x.1 ≤ (K : Int)) → ss lt W = bks W 0 K
  | [], W, K, h, _ => by
    subst h
    have : bks [] 0 K = [] := by
      unfold bks
      rw [List.flatMap_eq_nil_iff]
      intro i _
      rfl
    simp only [List.reverse_nil] at *
    rw [this]
    rfl
  | x :: r, W, K, h, hb => by
    rw [List.reverse_cons] at h
    obtain ⟨V, hV⟩ : ∃ V, r.reverse = V := ⟨_, rfl⟩
    rw [hV] at h
    subst h
    have ih := ss_bks r V K hV.symm (fun y hy => hb y (List.mem_append_left _ hy))
    obtain ⟨h1, h2⟩ := hb x (by simp)
    obtain ⟨j, hj⟩ : ∃ j : Nat, x.1 = (j : Int) + 1 := ⟨(x.1 - 1).toNat, by omega⟩
    obtain ⟨m, hm⟩ : ∃ m, K = j + 1 + m := ⟨K - (j + 1), by omega⟩
    rw [← ss_snoc lt_swk, ih, hm, bks_add, bks_add, bks_add (V ++ [x]), bks_add (V ++ [x]), bks_out (x := x) (a := 0) (n := j) (by right; omega), bks_out (x := x) (a := 0 + (j + 1)) (n := m) (by left; omega), bks_one, bks_one, List.filter_append]
    have e0 : [x].filter (fun y => decide (y.1 = ((0 + j : Nat) : Int) + 1)) = [x] := by
      rw [List.filter_eq_self]
      intro y hy
      rw [List.mem_singleton.1 hy, decide_eq_true_eq]
      omega
    rw [e0]
    obtain ⟨L1, hL1⟩ : ∃ L1, bks V 0 j ++ V.filter (fun y => decide (y.1 = ((0 + j : Nat) : Int) + 1)) = L1 := ⟨_, rfl⟩
    have hm1 : ∀ y ∈ L1, y.1 ≤ x.1 := fun y hy => by
      rw [← hL1] at hy
      rcases List.mem_append.1 hy with h | h
      · have := bks_mem h; omega
      · have := (List.mem_filter.1 h).2
        rw [decide_eq_true_eq] at this
        omega
    obtain ⟨L2, hL2⟩ : ∃ L2, bks V (0 + (j + 1)) m = L2 := ⟨_, rfl⟩
    have hm2 : ∀ y ∈ L2, x.1 < y.1 := fun y hy => by
      rw [← hL2] at hy
      have := bks_mem hy; omega
    rw [← List.append_assoc (bks V 0 j), hL1, hL2]
    have e1 := mg_split (lt := lt) L1 L2 [] [x] (fun l hl y hy => by rw [List.mem_singleton.1 hy]; exact decide_eq_false (by have := hm1 l hl; omega)) (fun y hy => by cases hy)
    have e2 := mg_split (lt := lt) [] L2 [x] [] (fun y hy => by cases hy) (fun y hy l hl => by rw [List.mem_singleton.1 hy]; exact decide_eq_true (hm2 l hl))
    simp only [List.nil_append, List.append_nil, nil_mg, mg_nil] at e1 e2
    rw [e1, e2, List.append_assoc]
    (try simp)
/-- Not among others, by the keys. -/
theorem has_kbs {Y : List Kn} {x : Kn} (hx : FitK x) (hY : ∀ y ∈ Y, FitK y) : (!hasB Y x) = decide (kbs x ∉ Y.map kbs) := by
  have : hasB Y x = true ↔ kbs x ∈ Y.map kbs := by
    unfold hasB
    rw [List.any_eq_true]
    constructor
    · rintro ⟨y, hy, he⟩
      rw [(eqK_iff y x).1 he] at hy
      exact List.mem_map.2 ⟨x, hy, rfl⟩
    · intro h
      obtain ⟨y, hy, he⟩ := List.mem_map.1 h
      have e : y = x := keyK_inj (hY y hy) hx (by rw [keyK_eq, keyK_eq, he])
      exact ⟨y, hy, (eqK_iff y x).2 e⟩
  by_cases h : kbs x ∈ Y.map kbs
  · rw [this.2 h, decide_eq_false (fun k => k h)]; rfl
  · have h2 : hasB Y x = false := by
      rw [← Bool.not_eq_true]
      exact fun k => h (this.1 k)
    rw [h2, decide_eq_true h]; rfl
theorem filter_pN {X Y : List Kn} (hX : ∀ x ∈ X, FitK x) (hY : ∀ y ∈ Y, FitK y) (n : Int) : X.filter (pN Y n) = (butL X Y).filter fun x => decide (x.1 = n) := by
  unfold butL
  rw [List.filter_filter]
  refine List.filter_congr ?_
  intro x hx
  unfold pN
  rw [has_kbs (hX x hx) hY]
theorem rowsN_eq {X Y : List Kn} {K : Nat} (hX : ∀ x ∈ X, FitK x) (hY : ∀ y ∈ Y, FitK y) (bX : ∀ x ∈ X, 1 ≤ x.1 ∧ x.1 ≤ (K : Int)) (bY : ∀ x ∈ Y, 1 ≤ x.1 ∧ x.1 ≤ (K : Int)) : rowsN X Y K = ss lt (bothL X Y) := by
  have hb : ∀ x ∈ bothL X Y, 1 ≤ x.1 ∧ x.1 ≤ (K : Int) := fun x hx => by
    unfold bothL butL at hx
    rcases List.mem_append.1 hx with h | h
    · exact bX x (List.mem_filter.1 h).1
    · exact bY x (List.mem_filter.1 h).1
  rw [ss_bks (bothL X Y).reverse (bothL X Y) K (List.reverse_reverse _).symm hb]
  unfold rowsN bks
  rw [List.range_eq_range']
  refine flatMap_same ?_
  intro i _
  unfold bothL
  rw [List.filter_append, filter_pN hX hY, filter_pN hY hX]
theorem force_rng (L : List Fa) : ∀ k, k ≤ L.length → ∀ x ∈ chosen notCancel L k, 1 ≤ x.1 ∧ x.1 ≤ (k : Int) := by
  intro k
  induction k with
  | zero => exact fun _ x hx => absurd hx (by rw [chosen_zero]; simp)
  | succ k ih =>
    intro hk x hx
    obtain ⟨f, hf⟩ : ∃ f, L[k]? = some f := ⟨_, List.getElem?_eq_getElem (by omega)⟩
    rw [chosen_succ notCancel hf] at hx
    rcases List.mem_append.1 hx with h | h
    · have := ih (by omega) x h; omega
    · split at h
      · cases h
      · split at h
        · rw [List.mem_singleton.1 h]
          constructor
          · show (1 : Int) ≤ (k : Int) + 1; omega
          · show (k : Int) + 1 ≤ ((k + 1 : Nat) : Int); omega
        · cases h
theorem changed_eq (P Q : List Fa) (fP : ∀ f ∈ P, Fit f) (fQ : ∀ f ∈ Q, Fit f) (hp : P.length ≤ 4096) (hq : Q.length ≤ 4096) : rowsN (forceL P) (forceL Q) (max P.length Q.length) = changedL P Q := by
  unfold changedL
  refine rowsN_eq (chosen_fit fP (by omega)) (chosen_fit fQ (by omega)) (fun x hx => ?_) (fun x hx => ?_)
  · have := force_rng P P.length (Nat.le_refl _) x hx; omega
  · have := force_rng Q Q.length (Nat.le_refl _) x hx; omega
end Go.Proofs.YtdpejolpjhlibaaGreatDoor
