import Derived.Test.YtgheloooibafcaaGreatDoorDys
/- On a day ahead of the first unlike one the facts in force are the same, in plain lists. -/
namespace Go.Proofs.YtgheloooibafcaaGreatDoor
open Go.RowKit Go.Sort

theorem sorted_ext {α : Type} {r : α → α → Prop} (irr : ∀ x, ¬ r x x) (tr : ∀ x y z, r x y → r y z → r x z) : ∀ a b : List α, a.Pairwise r → b.Pairwise r → (∀ x, x ∈ a ↔ x ∈ b) → a = b
  | [], [], _, _, _ => rfl
  | [], y :: b, _, _, h => by have := (h y).2 (List.mem_cons_self ..); cases this
  | x :: a, [], _, _, h => by have := (h x).1 (List.mem_cons_self ..); cases this
  | x :: a, y :: b, ha, hb, h => by
    obtain ⟨ha1, ha2⟩ := List.pairwise_cons.1 ha
    obtain ⟨hb1, hb2⟩ := List.pairwise_cons.1 hb
    have e : x = y := by
      rcases List.mem_cons.1 ((h x).1 (List.mem_cons_self ..)) with h1 | h1
      · exact h1
      · rcases List.mem_cons.1 ((h y).2 (List.mem_cons_self ..)) with h2 | h2
        · exact h2.symm
        · exact absurd (tr _ _ _ (ha1 y h2) (hb1 x h1)) (irr x)
    subst e
    rw [sorted_ext irr tr a b ha2 hb2 fun z => ?_]
    constructor
    · intro hz
      rcases List.mem_cons.1 ((h z).1 (List.mem_cons_of_mem _ hz)) with rfl | h1
      · exact absurd (ha1 _ hz) (irr _)
      · exact h1
    · intro hz
      rcases List.mem_cons.1 ((h z).2 (List.mem_cons_of_mem _ hz)) with rfl | h1
      · exact absurd (hb1 _ hz) (irr _)
      · exact h1
theorem chosen_sorted (p : Fa → Bool) (L : List Fa) : ∀ k, k ≤ L.length → (chosen p L k).Pairwise (fun x y => x.1 < y.1) ∧ ∀ x ∈ chosen p L k, x.1 ≤ (k : Int)
  | 0, _ => ⟨List.Pairwise.nil, fun x hx => by cases hx⟩
  | k + 1, h => by
    obtain ⟨h1, h2⟩ := chosen_sorted p L k (by omega)
    obtain ⟨f, hf⟩ : ∃ f, L[k]? = some f := ⟨_, List.getElem?_eq_getElem (by omega)⟩
    rw [chosen_succ p hf]
    constructor
    · rw [List.pairwise_append]
      refine ⟨h1, ?_, ?_⟩
      · split
        · exact List.Pairwise.nil
        · split
          · exact List.pairwise_singleton _ _
          · exact List.Pairwise.nil
      · intro x hx y hy
        have := h2 x hx
        split at hy
        · cases hy
        · split at hy
          · rw [List.mem_singleton] at hy
            subst hy
            show x.1 < (k : Int) + 1
            omega
          · cases hy
    · intro x hx
      rcases List.mem_append.1 hx with hx | hx
      · have := h2 x hx; omega
      · split at hx
        · cases hx
        · split at hx
          · rw [List.mem_singleton] at hx
            subst hx
            show (k : Int) + 1 ≤ ((k + 1 : Nat) : Int)
            omega
          · cases hx
theorem mem_chosen_iff {p : Fa → Bool} {L : List Fa} {x : Kn} : x ∈ chosen p L L.length ↔ ∃ i : Nat, x.1 = (i : Int) + 1 ∧ L[i]? = some x.2 ∧ takenB L ((i : Int) + 1) = false ∧ p x.2 = true := by
  constructor
  · intro h
    obtain ⟨i, _, h1, h2, h3, h4⟩ := mem_chosen h
    exact ⟨i, h1, h2, h3, h4⟩
  · rintro ⟨i, h1, h2, h3, h4⟩
    unfold chosen
    rw [List.mem_filterMap]
    refine ⟨i, List.mem_range.2 (List.getElem?_eq_some_iff.1 h2).1, ?_⟩
    obtain ⟨n, f⟩ := x
    simp only at h1 h2 h4
    subst h1
    simp [h2, h3, h4]
/-- Does a fact cover a day? -/
def coversB (f : Fa) (d : Int) : Bool := decide (chkF f = 0 ∧ f.ki ≠ 18) && (if daysB f.ki = true then decide (f.fr ≤ d ∧ (f.to = 0 ∨ d < f.to)) else decide (d = f.fr))
theorem covers_from {f : Fa} {d : Int} (h : coversB f d = true) : f.fr ≤ d := by
  unfold coversB at h
  rw [Bool.and_eq_true] at h
  have h2 := h.2
  split at h2
  · exact (of_decide_eq_true h2).1
  · have := of_decide_eq_true h2; omega
theorem firstF_le {f : Fa} (h : f.ki ≠ 18) : firstF f ≤ f.fr := by
  unfold firstF
  rw [if_neg h]
  split
  · have := Int.emod_nonneg (f.fr + 25567) (by decide : (7 : Int) ≠ 0)
    omega
  · omega
/-- The facts of a list that have a code, and cover a day. -/
def ownL (co : ByteArray) (d : Int) (l : List Kn) : List Kn := l.filter fun x => decide (x.2.co = co) && coversB x.2 d
theorem own_side {X Y : List Fa} {person pe ki d : Int} {co : ByteArray} (fX : ∀ f ∈ X, Fit f) (fY : ∀ f ∈ Y, Fit f) (hX : X.length ≤ 1000000) (hY : Y.length ≤ 1000000) (hk : ki ≠ 13 ∧ ki ≠ 17 ∧ ki ≠ 18) (hp : pe = person ∨ pe = 0)
    (hd : (sinceL person (changedL X Y)).2 = true → d < (sinceL person (changedL X Y)).1) {x : Kn} (h : x ∈ ownL co d (chosen (ofPK pe ki) X X.length)) : x ∈ ownL co d (chosen (ofPK pe ki) Y Y.length) := by
  unfold ownL at h ⊢
  rw [List.mem_filter] at h ⊢
  refine ⟨?_, h.2⟩
  obtain ⟨i, h1, h2, h3, h4⟩ := mem_chosen_iff.1 h.1
  have h5 : x.2.pe = pe ∧ x.2.ki = ki := of_decide_eq_true h4
  have h6 : x ∈ forceL X := mem_chosen_iff.2 ⟨i, h1, h2, h3, by unfold notCancel; simp [h5.2, hk.2.2]⟩
  have h7 := h.2
  rw [Bool.and_eq_true] at h7
  have hc := covers_from h7.2
  have hf := firstF_le (f := x.2) (by rw [h5.2]; exact hk.2.2)
  have hpay : payB person x.2 = true := by
    unfold payB
    rw [decide_eq_true_eq, h5.1, h5.2]
    exact ⟨hp, hk.1, hk.2.1⟩
  have h8 : x ∈ forceL Y := by
    by_cases h9 : kbs x ∈ (forceL Y).map kbs
    · obtain ⟨y, hy, e⟩ := List.mem_map.1 h9
      have := kbs_inj (force_fit fY hY y hy) (force_fit fX hX x h6) e
      subst this
      exact hy
    · exfalso
      have h10 : x ∈ changedL X Y := mem_changed.2 (List.mem_append.2 (.inl (mem_but.2 ⟨h6, h9⟩)))
      have h11 := since_le h10 hpay
      have h12 := hd (since_any.2 ⟨x, h10, hpay⟩)
      omega
  obtain ⟨j, k1, k2, k3, _⟩ := mem_chosen_iff.1 h8
  exact mem_chosen_iff.2 ⟨j, k1, k2, k3, h4⟩
theorem own_same {X Y : List Fa} {person pe ki d : Int} {co : ByteArray} (fX : ∀ f ∈ X, Fit f) (fY : ∀ f ∈ Y, Fit f) (hX : X.length ≤ 1000000) (hY : Y.length ≤ 1000000) (hk : ki ≠ 13 ∧ ki ≠ 17 ∧ ki ≠ 18) (hp : pe = person ∨ pe = 0)
    (hd : (sinceL person (changedL X Y)).2 = true → d < (sinceL person (changedL X Y)).1) : ownL co d (chosen (ofPK pe ki) X X.length) = ownL co d (chosen (ofPK pe ki) Y Y.length) := by
  refine sorted_ext (r := fun x y : Kn => x.1 < y.1) (fun x => Int.lt_irrefl _) (fun _ _ _ => Int.lt_trans) _ _ (List.Pairwise.filter _ (chosen_sorted _ _ _ (Nat.le_refl _)).1) (List.Pairwise.filter _ (chosen_sorted _ _ _ (Nat.le_refl _)).1) fun x => ⟨own_side fX fY hX hY hk hp hd, own_side fY fX hY hX hk hp ?_⟩
  rw [changed_comm person Y X]
  exact hd
/-- The place of the fact in force on a day, among the first ones. -/
def placeL (l : List Kn) (d : Int) : List Kn → Nat → Int → Int
  | [], _, at_ => at_
  | x :: r, i, at_ => placeL l d r (i + 1) (if x.2.fr ≤ d ∧ (x.2.to = 0 ∨ d < x.2.to) ∧ (at_ < 0 ∨ ∃ y, l[at_.toNat]? = some y ∧ y.1 < x.1) then (i : Int) else at_)
end Go.Proofs.YtgheloooibafcaaGreatDoor
