/- Out of: Ys0. -/
import Derived.Test.YtgepbkldgnjpfaaGreatDoorZgae
/- year's laws, in plain: what each step's slip holds, each fold's does; the parts of a step; lines by their keys. -/
namespace Go.Proofs.YtgepbkldgnjpfaaGreatDoor
open Go.RowKit Go.Sort Go.BigFrame Go.Maps

/-- What holds for each step's slip holds for a fold's. -/
theorem resGo_all {P : Slp → Prop} (hP : ∀ S M, (stepM S M).2.2 = 0 → P (stepM S M).2.1) (S0 : Ste) : ∀ (l : List Mon) (now : Ste) (out : List Slp), (∀ x ∈ out, P x) → ∀ x ∈ (resGo S0 now out l).1, P x
  | [], now, out, h => h
  | m :: r, now, out, h => by
    rw [resGo_cons]
    split
    · intro x hx; cases hx
    · rename_i h0
      refine resGo_all hP S0 r _ _ fun x hx => ?_
      rcases List.mem_append.1 hx with hx | hx
      · exact h x hx
      · rw [List.mem_singleton] at hx
        subst hx
        exact hP now m (by simpa using h0)
def NetP (x : Slp) : Prop := slpE x.1 x.2.1 x.2.2 = 0 ∧ 0 ≤ sumQ 4 5 x.2.2 ∧ (0 < sumQ 4 5 x.2.2 → 0 ≤ sumQ 0 0 x.2.2 - sumQ 1 5 x.2.2)
theorem nets_fold (l : List Mon) : ∀ x ∈ (foldM l).1, NetP x := by
  unfold foldM resM
  split
  · intro x hx; cases hx
  · refine resGo_all (fun S M h => ?_) _ l _ _ (fun x hx => by cases hx)
    generalize hq : stepM S M = q at h ⊢
    obtain ⟨S', ⟨y, i, L⟩, e⟩ := q
    simp only at h
    subst h
    exact nets_law hq
/-- A step's parts, one behind the other. -/
def d1 (S : Ste) (M : Mon) : Sd := (pf1 M (d0 S M)).1
def d2 (S : Ste) (M : Mon) : Sd := (pf2 M (d1 S M)).1
def d3 (S : Ste) (M : Mon) : Sd := (pf3 M (d2 S M)).1
def d4 (S : Ste) (M : Mon) : Sd := (pf4 M (d3 S M)).1
def d5 (S : Ste) (M : Mon) : Sd := (pf5 M (d4 S M)).1
def d6 (S : Ste) (M : Mon) : Sd := (pf6 M (d5 S M)).1
/-- A step that goes through. -/
structure StepOk (S : Ste) (M : Mon) (S' : Ste) (y i : Int) (L : List Li) : Prop where
  ch : chkM S M = 0
  e1 : (pf1 M (d0 S M)).2 = 0
  e2 : (pf2 M (d1 S M)).2 = 0
  e3 : (pf3 M (d2 S M)).2 = 0
  e4 : (pf4 M (d3 S M)).2 = 0
  e6 : (pf6 M (d5 S M)).2 = 0
  sl : slpR (d6 S M).ln = (L, 0)
  ok : slpE y i L = 0
  yy : y = M.y
  ii : i = M.i
  st : S' = (d6 S M).S
theorem step_ok {S S' : Ste} {M : Mon} {y i : Int} {L : List Li} (h : stepM S M = (S', (y, i, L), 0)) : StepOk S M S' y i L := by
  unfold stepM at h
  simp only [] at h
  split at h
  · rename_i h1; injection h with _ h; injection h with _ h; exact absurd h h1
  rename_i h1
  split at h
  · rename_i h2; injection h with _ h; injection h with _ h; exact absurd h h2
  rename_i h2
  split at h
  · rename_i h3; injection h with _ h; injection h with _ h; exact absurd h h3
  rename_i h3
  injection h with hS h
  injection h with h _
  injection h with hy h
  injection h with hi hL
  have hq := Decidable.not_not.1 h1
  have hs := Decidable.not_not.1 h2
  have hE := Decidable.not_not.1 h3
  unfold prts at hq hL hs hS hE
  obtain ⟨k0, hq, e1⟩ := runs_cons0 hq
  rw [e1] at hL hs hS hE
  obtain ⟨k1, hq, e2⟩ := runs_cons0 hq
  rw [e2] at hL hs hS hE
  obtain ⟨k2, hq, e3⟩ := runs_cons0 hq
  rw [e3] at hL hs hS hE
  obtain ⟨k3, hq, e4⟩ := runs_cons0 hq
  rw [e4] at hL hs hS hE
  obtain ⟨k4, hq, e5⟩ := runs_cons0 hq
  rw [e5] at hL hs hS hE
  obtain ⟨k5, hq, e6⟩ := runs_cons0 hq
  rw [e6] at hL hs hS hE
  simp only [runs] at hL hs hS hE hq
  exact ⟨k0, k1, k2, k3, k4, hq, Prod.ext hL hs, by rw [← hy, ← hi, ← hL]; exact hE, hy.symm, hi.symm, hS.symm⟩
theorem runs_z {f : Sd → Sd × Int} {r : List (Sd → Sd × Int)} {d : Sd} : runs (f :: r) d 0 = runs r (f d).1 (f d).2 := if_neg (by simp)
theorem step_of {S : Ste} {M : Mon} {L : List Li} (h0 : chkM S M = 0) (h1 : (pf1 M (d0 S M)).2 = 0) (h2 : (pf2 M (d1 S M)).2 = 0) (h3 : (pf3 M (d2 S M)).2 = 0) (h4 : (pf4 M (d3 S M)).2 = 0) (h6 : (pf6 M (d5 S M)).2 = 0) (hl : slpR (d6 S M).ln = (L, 0)) (hk : slpE M.y M.i L = 0) :
    stepM S M = ((d6 S M).S, (M.y, M.i, L), 0) := by
  have hr : runs (prts M) (d0 S M) (chkM S M) = (d6 S M, 0) := by
    rw [h0]
    unfold prts
    rw [runs_z, h1, runs_z, show (pf2 M (pf1 M (d0 S M)).1).2 = 0 from h2, runs_z, show (pf3 M (pf2 M (pf1 M (d0 S M)).1).1).2 = 0 from h3, runs_z, show (pf4 M (pf3 M (pf2 M (pf1 M (d0 S M)).1).1).1).2 = 0 from h4, runs_z]
    rw [show (pf5 M (pf4 M (pf3 M (pf2 M (pf1 M (d0 S M)).1).1).1).1).2 = 0 from rfl, runs_z, show (pf6 M (pf5 M (pf4 M (pf3 M (pf2 M (pf1 M (d0 S M)).1).1).1).1).1).2 = 0 from h6]
    rfl
  unfold stepM
  simp only [hr]
  rw [if_neg (by simp), if_neg (by rw [hl]; simp), if_neg (by rw [hl]; simpa using hk), hl]
theorem addP_skip {part : Int} {m : Ass Kp Int} {x : It} {r : List It} (h : ¬ ((0 ≤ part ∧ part ≤ 6) ∧ x.1.size ≤ 32)) : addP part m (x :: r) = addP part m r := by
  unfold addP
  rw [dif_neg h]
  cases r <;> rfl
/-- Lines of a part change no other part's. -/
theorem addP_oth {part : Int} {k : Kp} (hk : k.1.1 ≠ part) : ∀ (l : List It) (m : Ass Kp Int), getA (addP part m l) k = getA m k
  | [], m => rfl
  | x :: r, m => by
    by_cases h : (0 ≤ part ∧ part ≤ 6) ∧ x.1.size ≤ 32
    · rw [addP_cons h, addP_oth hk r]
      unfold getA
      rw [if_neg (fun e : (⟨(part, x.1), h⟩ : Kp) = k => hk (by rw [← e]))]
      cases m <;> rfl
    · rw [addP_skip h]
      exact addP_oth hk r m
/-- Lines told alike, of the keys that are asked for, stay so. -/
theorem addP_ext {p : Kp → Prop} {part : Int} : ∀ (l : List It) (m m' : Ass Kp Int), (∀ k, p k → getA m k = getA m' k) → ∀ k, p k → getA (addP part m l) k = getA (addP part m' l) k
  | [], m, m', h => h
  | x :: r, m, m', h => by
    by_cases hx : (0 ≤ part ∧ part ≤ 6) ∧ x.1.size ≤ 32
    · rw [addP_cons hx, addP_cons hx]
      refine addP_ext r _ _ fun k hk => ?_
      show (if (⟨(part, x.1), hx⟩ : Kp) = k then some _ else getA m k) = (if (⟨(part, x.1), hx⟩ : Kp) = k then some _ else getA m' k)
      by_cases e : (⟨(part, x.1), hx⟩ : Kp) = k
      · rw [if_pos e, if_pos e]
        unfold gP
        rw [e, h k hk]
      · rw [if_neg e, if_neg e]
        exact h k hk
    · rw [addP_skip hx, addP_skip hx]
      exact addP_ext r m m' h
theorem slpS_mem {x : Li} {m : Ass Kp Int} : x ∈ slpS m ↔ ∃ k v, getA m k = some v ∧ v ≠ 0 ∧ x = lnP k v := by
  rw [show x ∈ slpS m ↔ x ∈ slpG m [] from (List.mergeSort_perm _ _).mem_iff, slpG_mem]
  constructor
  · rintro ⟨k, v, _, h⟩; exact ⟨k, v, h⟩
  · rintro ⟨k, v, h⟩; exact ⟨k, v, by simp, h⟩
theorem slpS_pw (m : Ass Kp Int) : (slpS m).Pairwise fun x y => keyL x ≤ keyL y := by
  have := List.pairwise_mergeSort (le := fun x y : Li => decide (keyL x ≤ keyL y)) (fun a b c h1 h2 => by simp at *; omega) (fun a b => by simp; omega) (slpG m [])
  exact this.imp fun h => by simpa using h
theorem slpS_nd (m : Ass Kp Int) : (slpS m).Nodup := (List.mergeSort_perm _ _).nodup_iff.2 (slpG_nodup m [])
/-- Sorted lines without repeats that hold the same: the same. -/
theorem lines_uniq {s t : List Li} (hs : s.Pairwise fun x y => keyL x ≤ keyL y) (ht : t.Pairwise fun x y => keyL x ≤ keyL y) (ns : s.Nodup) (nt : t.Nodup) (hm : ∀ x, x ∈ s ↔ x ∈ t) (hk : ∀ a ∈ s, ∀ b ∈ t, keyL a = keyL b → a = b) : s = t :=
  ((List.perm_ext_iff_of_nodup ns nt).2 hm).eq_of_pairwise (fun a b ha hb h1 h2 => hk a ha b hb (by omega)) hs ht
/-- Lines told alike, of the keys that are asked for. -/
theorem slpS_filter {q : Li → Bool} {m m' : Ass Kp Int} (h : ∀ k, (∃ v, q (lnP k v) = true) → getA m k = getA m' k) : (slpS m).filter q = (slpS m').filter q := by
  have hm : ∀ x, x ∈ (slpS m).filter q ↔ x ∈ (slpS m').filter q := fun x => by
    rw [List.mem_filter, List.mem_filter, slpS_mem, slpS_mem]
    constructor
    · rintro ⟨⟨k, v, h1, h2, rfl⟩, h3⟩; exact ⟨⟨k, v, by rw [← h k ⟨v, h3⟩]; exact h1, h2, rfl⟩, h3⟩
    · rintro ⟨⟨k, v, h1, h2, rfl⟩, h3⟩; exact ⟨⟨k, v, by rw [h k ⟨v, h3⟩]; exact h1, h2, rfl⟩, h3⟩
  refine lines_uniq ((slpS_pw m).filter _) ((slpS_pw m').filter _) ((slpS_nd m).filter _) ((slpS_nd m').filter _) hm fun a ha b hb e => ?_
  obtain ⟨k, v, h1, _, rfl⟩ := slpS_mem.1 (List.mem_filter.1 ha).1
  have hb' := (List.mem_filter.1 ((hm b).2 hb)).1
  obtain ⟨k', v', h1', _, rfl⟩ := slpS_mem.1 hb'
  have e2 := keyL_inj e
  subst e2
  rw [h1] at h1'
  cases h1'
  rfl
theorem slpR_ok {m : Ass Kp Int} {L : List Li} (h : slpR m = (L, 0)) : slpOk m = true ∧ L = slpS m := by
  unfold slpR at h
  split at h
  · injection h with _ h; cases h
  · rename_i h1; injection h with h _; exact ⟨by simpa using h1, h.symm⟩
theorem slpOk_ext {m m' : Ass Kp Int} (h : ∀ k, getA m k = getA m' k) : slpOk m = slpOk m' := by
  have e : slpOk m = true ↔ slpOk m' = true := by
    rw [slpOk_iff, slpOk_iff]
    exact ⟨fun g k v hv => g k v (by rw [h]; exact hv), fun g k v hv => g k v (by rw [← h]; exact hv)⟩
  cases h1 : slpOk m <;> cases h2 : slpOk m' <;> simp_all
theorem slpR_ext {m m' : Ass Kp Int} (h : ∀ k, getA m k = getA m' k) : slpR m = slpR m' := by
  have hs : slpS m = slpS m' := by
    have := slpS_filter (q := fun _ => true) (m := m) (m' := m') (fun k _ => h k)
    have e : ∀ L : List Li, L.filter (fun _ => true) = L := fun L => List.filter_eq_self.2 fun _ _ => rfl
    rwa [e, e] at this
  unfold slpR
  rw [slpOk_ext h, hs]
theorem slpGo_sz : ∀ (l : List Li) (o : Option Li), slpGo o l = 0 → ∀ x ∈ l, x.2.1.size ≤ 32
  | [], _, _ => fun x hx => by cases hx
  | a :: r, o, h => fun x hx => by
    unfold slpGo at h
    by_cases h1 : linE a ≠ 0
    · rw [if_pos h1] at h; exact absurd h h1
    rw [if_neg h1] at h
    have hr : ∃ o', slpGo o' r = 0 := by
      cases o with
      | none => exact ⟨_, h⟩
      | some b =>
        simp only [] at h
        split at h
        · simp at h
        · split at h
          · simp at h
          · exact ⟨_, h⟩
    obtain ⟨o', hr⟩ := hr
    rcases List.mem_cons.1 hx with rfl | hx
    · have h2 : linE x = 0 := Decidable.not_not.1 h1
      unfold linE at h2
      split at h2
      · cases h2
      split at h2
      · cases h2
      · rename_i h3
        exact nameB_len (by simpa using h3)
    · exact slpGo_sz r o' hr x hx
theorem slpE_sz {y i : Int} {l : List Li} (h : slpE y i l = 0) : ∀ x ∈ l, x.2.1.size ≤ 9223372036854775807 := fun x hx => by
  unfold slpE at h
  split at h
  · cases h
  split at h
  · cases h
  have := slpGo_sz l none h x hx
  omega
theorem resGo_cnt (S0 : Ste) : ∀ (l : List Mon) (now : Ste) (out : List Slp), (resGo S0 now out l).1.length ≤ out.length + l.length
  | [], now, out => Nat.le_refl _
  | m :: r, now, out => by
    rw [resGo_cons]
    split
    · exact Nat.zero_le _
    · have h := resGo_cnt S0 r (stepM now m).1 (out ++ [(stepM now m).2.1])
      rw [List.length_append] at h
      simp only [List.length_cons, List.length_nil] at h ⊢
      omega
theorem sums_bd {y i : Int} {l : List Li} (h : slpE y i l = 0) {g s n f e : Int} (hq : sumsL y i l = (g, s, n, f, e)) : e = 0 → g = s + n ∧ (-1125899906842624 ≤ g ∧ g ≤ 1125899906842624) ∧ n = sumQ 0 0 l - sumQ 1 5 l := fun he => by
  unfold sumsL at hq
  rw [if_neg (by rw [h]; simp)] at hq
  split at hq
  · rename_i hf
    simp only [Prod.mk.injEq] at hq
    have := fitB_bd hf.1
    omega
  · simp only [Prod.mk.injEq] at hq
    omega
end Go.Proofs.YtgepbkldgnjpfaaGreatDoor
