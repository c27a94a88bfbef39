import Derived.Test.YtlgoaohklggcdaaGreatDoorLwh
import Derived.Test.YtlgoaohklggcdaaGreatDoorPe3
/- The terms hang on the order of the facts alone, not on their numbers: plain laws of TermsSpans, TermsLater and TermsOthers. -/
namespace Go.Proofs.YtlgoaohklggcdaaGreatDoor
open Go.RowKit Go.Sort

--BEGIN1
/-- Where a piece begins; behind the last: the end. -/
def begS (T : Int) (R : List (Int × Int)) (k : Nat) : Int := match R[k]? with
  | some p => p.1
  | none => T
theorem Runs.beg0 {e : Int → Int → Bool} {T : Int} : ∀ {L : List (Int × Int)} {F : Int}, Runs e T F L → begS T L 0 = F
  | [], _, h => (show _ = T from h).symm
  | _ :: _, _, h => h.1
theorem begS_len (T : Int) (L : List (Int × Int)) : begS T L L.length = T := by
  unfold begS
  rw [List.getElem?_eq_none (Nat.le_refl _)]
theorem Runs.at_ {e : Int → Int → Bool} (he : Eqv e) {T : Int} : ∀ {L : List (Int × Int)} {F : Int}, Runs e T F L → ∀ k, k < L.length → ∃ p, L[k]? = some p ∧ p.1 = begS T L k ∧ p.1 < p.2 ∧ p.2 = begS T L (k + 1) ∧ (∀ d, p.1 ≤ d → d < p.2 → e p.1 d = true) ∧ (0 < k → e (p.1 - 1) p.1 = false) ∧ F ≤ p.1 ∧ p.2 ≤ T ∧ (0 < k → F < p.1)
  | [], _, _, k, hk => absurd hk (Nat.not_lt_zero _)
  | p :: L, F, h, k, hk => by
    obtain ⟨h1, h2, h3, h4, h5⟩ := h
    cases k with
    | zero => exact ⟨p, rfl, rfl, by omega, (Runs.beg0 h4).symm, by rw [h1]; exact h3, fun h => absurd h (Nat.not_lt_zero _), by omega, h4.le, fun h => absurd h (Nat.not_lt_zero _)⟩
    | succ k =>
      obtain ⟨q, k1, k2, k3, k4, k5, k6, k7, k8, k9⟩ := Runs.at_ he h4 k (by simpa using hk)
      refine ⟨q, k1, k2, k3, k4, k5, fun _ => ?_, by omega, k8, fun _ => by omega⟩
      cases k with
      | succ k => exact k6 (by omega)
      | zero =>
        have hL : L ≠ [] := by intro hL; subst hL; simp at k1
        have hq : q.1 = p.2 := by rw [k2, Runs.beg0 h4]
        rw [hq]
        exact he.no (b := F) (by rw [he.symm]; exact h3 _ (by omega) (by omega)) (h5 hL)
theorem Runs.congr {e e' : Int → Int → Bool} {T : Int} : ∀ {L : List (Int × Int)} {F : Int}, (∀ a b, F ≤ a → a < T → F ≤ b → b < T → e a b = e' a b) → Runs e T F L → Runs e' T F L
  | [], _, _, h => h
  | p :: L, F, hc, h => by
    obtain ⟨h1, h2, h3, h4, h5⟩ := h
    have hle := h4.le
    refine ⟨h1, h2, fun d k1 k2 => ?_, Runs.congr (fun a b i1 i2 i3 i4 => hc a b (by omega) i2 (by omega) i4) h4, fun hL => ?_⟩
    · rw [← hc F d (Int.le_refl _) (by omega) k1 (by omega)]
      exact h3 d k1 k2
    · have hlt : p.2 < T := by
        cases L with
        | nil => exact absurd rfl hL
        | cons q L =>
          have := h4.2.1
          have := h4.2.2.2.1.le
          omega
      rw [← hc F p.2 (Int.le_refl _) (by omega) (by omega) hlt]
      exact h5 hL
--END1
theorem runsOf_congr {e e' : Int → Int → Bool} (he : Eqv e) (he' : Eqv e') {F T : Int} (hc : ∀ a b, F ≤ a → a < T → F ≤ b → b < T → e a b = e' a b) : runsOf e F T = runsOf e' F T := by
  by_cases h : F ≤ T
  · exact Runs.one (Runs.congr hc (runsOf_runs he h)) (runsOf_runs he' h)
  · rw [runsOf_nil (by omega), runsOf_nil (by omega)]
/-- The last of a list that holds on a day. -/
def lastF (d : Int) (X : List Fa) : Option Fa := X.foldl (fun o f => if inB f d = true then some f else o) none
theorem lastF_snoc (d : Int) (X : List Fa) (f : Fa) : lastF d (X ++ [f]) = if inB f d = true then some f else lastF d X := by
  unfold lastF
  rw [List.foldl_append]
  rfl
theorem lastF_app (d : Int) (X : List Fa) : ∀ E : List Fa, (∀ f ∈ E, inB f d = false) → lastF d (X ++ E) = lastF d X := by
  intro E hE
  unfold lastF
  rw [List.foldl_append]
  generalize List.foldl (fun o f => if inB f d = true then some f else o) none X = o
  induction E with
  | nil => rfl
  | cons f E ih =>
    rw [List.foldl_cons, hE f (List.mem_cons_self ..), if_neg (by decide)]
    exact ih fun g hg => hE g (List.mem_cons_of_mem _ hg)
def SrtN (X : List Kn) : Prop := X.Pairwise fun x y => x.1 < y.1
theorem plc_last {X : List Kn} (d : Int) (hX : SrtN X) : ∀ k, k ≤ X.length → match lastF d ((X.take k).map Prod.snd) with
    | none => plc X d k = -1
    | some f => ∃ j : Nat, plc X d k = (j : Int) ∧ j < k ∧ ∃ n, X[j]? = some (n, f)
  | 0, _ => by
    rw [List.take_zero]
    rfl
  | k + 1, hk => by
    obtain ⟨x, hx⟩ : ∃ x, X[k]? = some x := ⟨_, List.getElem?_eq_getElem (by omega)⟩
    have ih := plc_last d hX k (by omega)
    rw [List.take_add_one, hx, Option.toList_some, List.map_append, List.map_cons, List.map_nil, lastF_snoc, plc_succ hx]
    by_cases hb : inB x.2 d = true
    · rw [if_pos hb, hb, Bool.true_and]
      have hc : (decide (plc X d k < 0) || decide (nAt X (plc X d k) < x.1)) = true := by
        cases hl : lastF d ((X.take k).map Prod.snd) with
        | none =>
          rw [hl] at ih
          have ih2 : plc X d k = -1 := ih
          rw [ih2]
          rfl
        | some f =>
          rw [hl] at ih
          obtain ⟨j, h1, h2, n, h3⟩ := ih
          rw [h1]
          have h4 : nAt X (j : Int) = n := by
            unfold nAt
            rw [Int.toNat_natCast, h3]
          rw [h4]
          have hp := List.pairwise_iff_getElem.1 hX j k (by omega) (by omega) h2
          rw [List.getElem?_eq_getElem (by omega)] at h3 hx
          rw [Option.some.inj h3, Option.some.inj hx] at hp
          rw [decide_eq_true hp, Bool.or_true]
      rw [if_pos hc]
      exact ⟨k, rfl, by omega, x.1, hx⟩
    · rw [if_neg hb]
      have hb2 : inB x.2 d = false := by simpa using hb
      rw [hb2, Bool.false_and, if_neg (by decide)]
      cases hl : lastF d ((X.take k).map Prod.snd) with
      | none =>
        rw [hl] at ih
        exact ih
      | some f =>
        rw [hl] at ih
        obtain ⟨j, h1, h2, h3⟩ := ih
        exact ⟨j, h1, by omega, h3⟩
/-- What a line's facts say on a day, by the last of them. -/
theorem q_last {α : Type} {X Y : List Kn} {d : Int} (hX : SrtN X) (hY : SrtN Y) (h : lastF d (X.map Prod.snd) = lastF d (Y.map Prod.snd)) (g : Int × ByteArray → α) (z : α) : (if 0 ≤ q_ X d then g (valL X (q_ X d)).2 else z) = if 0 ≤ q_ Y d then g (valL Y (q_ Y d)).2 else z := by
  have h1 := plc_last d hX X.length (Nat.le_refl _)
  have h2 := plc_last d hY Y.length (Nat.le_refl _)
  rw [List.take_length] at h1 h2
  rw [← h] at h2
  unfold q_
  cases hl : lastF d (X.map Prod.snd) with
  | none =>
    rw [hl] at h1 h2
    have e1 : plc X d X.length = -1 := h1
    have e2 : plc Y d Y.length = -1 := h2
    rw [e1, e2]
    rfl
  | some f =>
    rw [hl] at h1 h2
    obtain ⟨i, a1, _, n, a3⟩ := h1
    obtain ⟨j, b1, _, m, b3⟩ := h2
    rw [a1, b1, if_pos (by omega), if_pos (by omega), valL_at a3, valL_at b3]
theorem on_last {L M : Ls} {d : Int} (hL : ∀ i, i < 5 → SrtN (L.at_ i)) (hM : ∀ i, i < 5 → SrtN (M.at_ i)) (h : ∀ i, i < 5 → lastF d ((L.at_ i).map Prod.snd) = lastF d ((M.at_ i).map Prod.snd)) : onX L d = onX M d := by
  have e0 := q_last (hL 0 (by omega)) (hM 0 (by omega)) (h 0 (by omega)) (fun v => v.1 == 1) false
  have e1 := q_last (hL 1 (by omega)) (hM 1 (by omega)) (h 1 (by omega)) (fun v => v.1) (0 : Int)
  have e2 := q_last (hL 2 (by omega)) (hM 2 (by omega)) (h 2 (by omega)) (fun v => v.1) (1000000 : Int)
  have e3 := q_last (hL 3 (by omega)) (hM 3 (by omega)) (h 3 (by omega)) (fun v => fun i : Nat => (weekV (ls v.2)).getD i 0) (fun i : Nat => ([480, 480, 480, 480, 480, 0, 0] : List Int).getD i 0)
  have e4 := q_last (hL 4 (by omega)) (hM 4 (by omega)) (h 4 (by omega)) (fun v => v.2) (⟨#[102, 105, 114, 109, 58, 49]⟩ : ByteArray)
  simp only [Ls.at_] at e0 e1 e2 e3 e4
  unfold onX
  rw [e0, e1, e2, e3, e4]
theorem ch_sorted (p : Fa → Bool) (L : List Fa) : ∀ k, k ≤ L.length → SrtN (chosen p L k) ∧ ∀ x ∈ chosen p L k, x.1 ≤ (k : Int)
  | 0, _ => ⟨List.Pairwise.nil, fun x hx => by cases hx⟩
  | k + 1, h => by
    obtain ⟨h1, h2⟩ := ch_sorted p L k (by omega)
    obtain ⟨f, hf⟩ : ∃ f, L[k]? = some f := ⟨_, List.getElem?_eq_getElem (by omega)⟩
    rw [chosen_succ p hf]
    constructor
    · refine List.pairwise_append.2 ⟨h1, ?_, ?_⟩
      · split
        · exact List.Pairwise.nil
        · split
          · exact List.pairwise_singleton _ _
          · exact List.Pairwise.nil
      · intro x hx y hy
        have := h2 x hx
        split at hy
        · cases hy
        · split at hy
          · rw [List.mem_singleton] at hy
            subst hy
            show x.1 < (k : Int) + 1
            omega
          · cases hy
    · intro x hx
      rcases List.mem_append.1 hx with hx | hx
      · have := h2 x hx; omega
      · split at hx
        · cases hx
        · split at hx
          · rw [List.mem_singleton] at hx
            subst hx
            show (k : Int) + 1 ≤ ((k + 1 : Nat) : Int)
            omega
          · cases hx
theorem lsOf_srt (L : List Fa) (pe : Int) (i : Nat) (hi : i < 5) : SrtN ((lsOf L pe).at_ i) := by
  rw [lsOf_at L pe hi]
  exact (ch_sorted _ L L.length (Nat.le_refl _)).1
theorem runs_same {X Y : Ls} {F T : Int} (h : ∀ d, F ≤ d → d < T → onX X d = onX Y d) : ofL X F T = ofL Y F T ∧ ∀ p ∈ ofL X F T, encO X p = encO Y p := by
  have hc : ∀ a b, F ≤ a → a < T → F ≤ b → b < T → eT X a b = eT Y a b := fun a b h1 h2 h3 h4 => by
    unfold eT
    rw [h a h1 h2, h b h3 h4]
  have hr := runsOf_congr (eT_eqv X) (eT_eqv Y) hc
  unfold ofL
  by_cases hT : T ≤ F
  · rw [if_pos hT, if_pos hT]
    exact ⟨rfl, fun p hp => by cases hp⟩
  · rw [if_neg hT, if_neg hT]
    by_cases hI : -25567 ≤ F ∧ T ≤ 84006
    · rw [if_pos hI, if_pos hI]
      refine ⟨hr, fun p hp => ?_⟩
      obtain ⟨k, hk⟩ := List.getElem?_of_mem hp
      have hkl := (List.getElem?_eq_some_iff.1 hk).1
      obtain ⟨q, k1, _, k3, _, _, _, k7, k8, _⟩ := Runs.at_ (eT_eqv X) (runsOf_runs (eT_eqv X) (by omega)) k hkl
      rw [hk] at k1
      obtain rfl := Option.some.inj k1
      unfold encO
      rw [h p.1 k7 (by omega)]
    · rw [if_neg hI, if_neg hI]
      exact ⟨rfl, fun p hp => by cases hp⟩
/-- TermsLater: a fact more. -/
theorem later_on {T : List Fa} {f : Fa} (ht : Told T) (hid : f.id = 0) (hk : f.ki ≠ 18) (hn : T.length < 4096) {pe d : Int} (h : pe ≠ f.pe ∨ d < f.fr) : onX (lsOf T pe) d = onX (lsOf (addL T f).1 pe) d := by
  rw [addL_plain hid hk hn]
  refine on_last (lsOf_srt _ _) (lsOf_srt _ _) fun i hi => ?_
  rw [lsOf_at _ _ hi, lsOf_at _ _ hi]
  have hE : NoC (oneL f) := noC_one hk
  have he : oneL f = if chkF f = 0 then [f] else [] := rfl
  rw [← he, chosen_app _ ht hE]
  refine (lastF_app d _ _ fun g hg => ?_).symm
  obtain ⟨h1, h2⟩ := List.mem_filter.1 hg
  unfold oneL at h1
  split at h1
  · obtain rfl := List.mem_singleton.1 h1
    unfold ofPK at h2
    have h3 := of_decide_eq_true h2
    rcases h with h | h
    · exact absurd h3.1.symm h
    · unfold inB
      rw [decide_eq_false (by omega), Bool.false_and]
  · cases h1
/-- TermsOthers: a person's own facts alone. -/
theorem tell_plain : ∀ (l T : List Fa), (∀ f ∈ l, f.id = 0 ∧ f.ki ≠ 18) → T.length + l.length ≤ 4096 → tellL T l = T ++ l.filter fun f => decide (chkF f = 0)
  | [], T, _, _ => by rw [tellL_nil, List.filter_nil, List.append_nil]
  | f :: l, T, h, hn => by
    obtain ⟨h1, h2⟩ := h f (List.mem_cons_self ..)
    rw [List.length_cons] at hn
    rw [tellL_cons, addL_plain h1 h2 (by omega), tell_plain l _ (fun g hg => h g (List.mem_cons_of_mem _ hg)) (by split <;> simp <;> omega), List.filter_cons, List.append_assoc]
    congr 1
    by_cases hc : chkF f = 0
    · rw [if_pos hc, decide_eq_true hc, if_pos rfl]
      rfl
    · rw [if_neg hc, decide_eq_false hc, if_neg (by decide)]
      rfl
theorem others_on {l : List Fa} (h : ∀ f ∈ l, f.id = 0 ∧ f.ki ≠ 18) (hn : l.length ≤ 4096) (pe d : Int) : onX (lsOf (tellL [] l) pe) d = onX (lsOf (tellL [] (l.filter fun f => decide (f.pe = pe))) pe) d := by
  have hn2 := List.length_filter_le (fun f : Fa => decide (f.pe = pe)) l
  have hM : ∀ f ∈ l.filter (fun f => decide (f.pe = pe)), f.id = 0 ∧ f.ki ≠ 18 := fun f hf => h f (List.mem_filter.1 hf).1
  have key : ∀ (L : List Fa) (i : Nat), i < 5 → (∀ f ∈ L, f.id = 0 ∧ f.ki ≠ 18) → L.length ≤ 4096 → ((lsOf (tellL [] L) pe).at_ i).map Prod.snd = (L.filter fun f => decide (chkF f = 0)).filter (ofPK pe ((i : Int) + 1)) := fun L i hi hL hLn => by
    rw [lsOf_at _ _ hi, tell_plain L [] hL (by simpa using hLn), chosen_app _ Told.nil (fun f hf => (hL f (List.mem_filter.1 hf).1).2)]
    rfl
  refine on_last (lsOf_srt _ _) (lsOf_srt _ _) fun i hi => ?_
  rw [key l i hi h hn, key _ i hi hM (by omega), List.filter_filter, List.filter_filter, List.filter_filter]
  congr 1
  refine List.filter_congr fun f _ => ?_
  by_cases hp : f.pe = pe
  · simp [hp]
  · simp [ofPK, hp]
end Go.Proofs.YtlgoaohklggcdaaGreatDoor
