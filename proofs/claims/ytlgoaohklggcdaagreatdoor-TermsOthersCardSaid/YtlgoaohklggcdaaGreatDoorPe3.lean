import Derived.Test.YtlgoaohklggcdaaGreatDoorUt1
/- Two facts, told in either order: the plain law of StoreTurns. -/
namespace Go.Proofs.YtlgoaohklggcdaaGreatDoor
open Go.RowKit Go.Sort

theorem addL_plain {T : List Fa} {f : Fa} (hid : f.id = 0) (hk : f.ki ≠ 18) (hn : T.length < 4096) : (addL T f).1 = T ++ (if chkF f = 0 then [f] else []) := by
  unfold addL
  rw [if_neg (by omega)]
  by_cases hc : chkF f = 0
  · rw [if_neg (fun h => h hc), if_pos hc]
    have hp : placeI T f.id = -1 := by unfold placeI; rw [if_pos hid]
    rw [hp, if_neg (by omega)]
    have hcan : canE T f = 0 := by unfold canE; rw [if_pos hk]
    rw [if_neg (fun h => h hcan)]
  · rw [if_pos hc, if_neg hc, List.append_nil]
/-- Those of a list that are none of them Cancels. -/
def NoC (E : List Fa) : Prop := ∀ f ∈ E, f.ki ≠ 18
theorem taken_app {T E : List Fa} (h : NoC E) (n : Int) : takenB (T ++ E) n = takenB T n := by
  unfold takenB
  rw [List.any_append]
  have : E.any (fun f => decide (f.ki = 18 ∧ f.nu = n)) = false := by
    rw [List.any_eq_false]
    intro f hf hc
    exact h f hf (of_decide_eq_true hc).1
  rw [this, Bool.or_false]
theorem Told.beyond {T : List Fa} (h : Told T) {n : Nat} (hn : T.length ≤ n) : takenB T ((n : Int) + 1) = false := by
  unfold takenB
  rw [List.any_eq_false]
  intro g hg hc
  have hc2 := of_decide_eq_true hc
  obtain ⟨j, hj⟩ := List.getElem?_of_mem hg
  have hjl := (List.getElem?_eq_some_iff.1 hj).1
  obtain ⟨_, h2, _⟩ := h j g hj hc2.1
  omega
theorem chosen_pre (p : Fa → Bool) {T E : List Fa} (h : NoC E) : ∀ k, k ≤ T.length → chosen p (T ++ E) k = chosen p T k := by
  intro k
  induction k with
  | zero => exact fun _ => rfl
  | succ k ih =>
    intro hk
    obtain ⟨f, hf⟩ : ∃ f, T[k]? = some f := ⟨_, List.getElem?_eq_getElem (by omega)⟩
    have hf2 : (T ++ E)[k]? = some f := by rw [List.getElem?_append_left (by omega)]; exact hf
    rw [chosen_succ _ hf2, chosen_succ _ hf, ih (by omega), taken_app h]
/-- What more facts add to what is chosen. -/
theorem chosen_app (p : Fa → Bool) {T E : List Fa} (ht : Told T) (h : NoC E) : (chosen p (T ++ E) (T ++ E).length).map Prod.snd = (chosen p T T.length).map Prod.snd ++ E.filter p := by
  have key : ∀ j, j ≤ E.length → (chosen p (T ++ E) (T.length + j)).map Prod.snd = (chosen p T T.length).map Prod.snd ++ (E.take j).filter p := by
    intro j
    induction j with
    | zero => intro _; rw [Nat.add_zero, chosen_pre p h _ (Nat.le_refl _)]; simp
    | succ j ih =>
      intro hj
      obtain ⟨f, hf⟩ : ∃ f, E[j]? = some f := ⟨_, List.getElem?_eq_getElem (by omega)⟩
      have hf2 : (T ++ E)[T.length + j]? = some f := by rw [List.getElem?_append_right (by omega), Nat.add_sub_cancel_left]; exact hf
      have ht2 : takenB (T ++ E) (((T.length + j : Nat) : Int) + 1) = false := by rw [taken_app h]; exact ht.beyond (by omega)
      rw [← Nat.add_assoc, chosen_succ _ hf2, List.map_append, ih (by omega), ht2, if_neg (by decide), List.take_add_one, hf, List.filter_append, List.append_assoc]
      congr 1
      congr 1
      by_cases hp : p f = true
      · rw [if_pos hp]; simp [hp]
      · rw [if_neg hp]; simp [hp]
  have := key E.length (Nat.le_refl _)
  rw [List.take_length] at this
  rw [List.length_append]
  exact this

/-- The stores behind two facts, told in either order. -/
def oneL (f : Fa) : List Fa := if chkF f = 0 then [f] else []
theorem noC_one {f : Fa} (h : f.ki ≠ 18) : NoC (oneL f) := by
  intro x hx
  unfold oneL at hx
  split at hx
  · rw [List.mem_singleton.1 hx]; exact h
  · cases hx
theorem noC_app {E D : List Fa} (h : NoC E) (k : NoC D) : NoC (E ++ D) := fun f hf => by
  rcases List.mem_append.1 hf with hf | hf
  · exact h f hf
  · exact k f hf
theorem two_tell {T : List Fa} {f g : Fa} (hf : f.id = 0) (hg : g.id = 0) (kf : f.ki ≠ 18) (kg : g.ki ≠ 18) (hn : T.length ≤ 4000) : (addL (addL T f).1 g).1 = T ++ (oneL f ++ oneL g) := by
  rw [addL_plain hf kf (by omega)]
  have hl : (T ++ (if chkF f = 0 then [f] else [])).length < 4096 := by
    rw [List.length_append]
    split <;> simp <;> omega
  rw [addL_plain hg kg hl, List.append_assoc]
  rfl
theorem one_filter (p : Fa → Bool) (f : Fa) (h : p f = false) : (oneL f).filter p = [] := by
  unfold oneL
  split
  · simp [h]
  · rfl
theorem turn_filter {f g : Fa} {pe ki : Int} (h : ¬ (f.pe = g.pe ∧ f.ki = g.ki)) : (oneL f ++ oneL g).filter (ofPK pe ki) = (oneL g ++ oneL f).filter (ofPK pe ki) := by
  rw [List.filter_append, List.filter_append]
  by_cases hf : ofPK pe ki f = true
  · have h1 : f.pe = pe ∧ f.ki = ki := of_decide_eq_true hf
    have hg : ofPK pe ki g = false := decide_eq_false (fun h2 => h ⟨h1.1.trans h2.1.symm, h1.2.trans h2.2.symm⟩)
    rw [one_filter _ _ hg, List.append_nil, List.nil_append]
  · rw [one_filter _ _ (by simpa using hf), List.append_nil, List.nil_append]
/-- The facts of a person and a kind are the same, in the same order. -/
theorem turn_facts {T : List Fa} {f g : Fa} (ht : Told T) (kf : f.ki ≠ 18) (kg : g.ki ≠ 18) (h : ¬ (f.pe = g.pe ∧ f.ki = g.ki)) (pe ki : Int) :
    (chosen (ofPK pe ki) (T ++ (oneL f ++ oneL g)) (T ++ (oneL f ++ oneL g)).length).map Prod.snd = (chosen (ofPK pe ki) (T ++ (oneL g ++ oneL f)) (T ++ (oneL g ++ oneL f)).length).map Prod.snd := by
  rw [chosen_app _ ht (noC_app (noC_one kf) (noC_one kg)), chosen_app _ ht (noC_app (noC_one kg) (noC_one kf)), turn_filter h]
def peS (L : List Fa) : List Int := L.filterMap fun f => if f.pe = 0 then none else some f.pe
theorem pesL_snd (X : List Kn) : pesL X = peS (X.map Prod.snd) := by
  unfold pesL peS
  rw [List.filterMap_map]
  rfl
/-- The persons are the same. -/
theorem turn_persons {T : List Fa} {f g : Fa} (ht : Told T) (kf : f.ki ≠ 18) (kg : g.ki ≠ 18) : personsL (T ++ (oneL f ++ oneL g)) = personsL (T ++ (oneL g ++ oneL f)) := by
  unfold personsL forceL
  rw [pesL_snd, pesL_snd, chosen_app _ ht (noC_app (noC_one kf) (noC_one kg)), chosen_app _ ht (noC_app (noC_one kg) (noC_one kf))]
  refine strict_ext _ _ (sorted_foldU _ [] .nil) (sorted_foldU _ [] .nil) fun y => ?_
  rw [mem_foldU, mem_foldU]
  simp only [peS, List.filter_append, List.filterMap_append, List.mem_append]
  constructor
  · rintro ((h | h | h) | h)
    · exact .inl (.inl h)
    · exact .inl (.inr (.inr h))
    · exact .inl (.inr (.inl h))
    · exact .inr h
  · rintro ((h | h | h) | h)
    · exact .inl (.inl h)
    · exact .inl (.inr (.inr h))
    · exact .inl (.inr (.inl h))
    · exact .inr h
end Go.Proofs.YtlgoaohklggcdaaGreatDoor
