/- Moves, in plain numbers: what is wrong with a plan, a day and moves. -/
import Derived.Test.YtkbpdbfldijeeaaDoorBk
import Derived.Test.YtkbpdbfldijeeaaDoorCal
namespace Go.Proofs.YtkbpdbfldijeeaaDoor

/-- A move: its day, what is granted, what is taken. -/
abbrev Mv := Int × Int × Int
def encM (x : Mv) : List Value := [.int .i64 x.1, .int .i64 x.2.1, .int .i64 x.2.2]
theorem encM_len (x : Mv) : (encM x).length = 3 := rfl
/-- What a slice holds: element i's cells, of 'sz' cells each. -/
def Sl {α : Type} (enc : α → List Value) (sz : Nat) (w : World) (B : Nat) (A : Option Addr) (L : List α) : Prop :=
  L ≠ [] → ∃ b off, A = some ⟨b, off, none⟩ ∧ b < B ∧ ∀ i x, L[i]? = some x → ∀ j u, (enc x)[j]? = some u → w.cell? ⟨b, off + i * sz + j, none⟩ = some u
theorem Sl.keep {α : Type} {enc : α → List Value} {sz B : Nat} {w w' : World} {A : Option Addr} {L : List α} (h : Sl enc sz w B A L) (hk : ∀ b o, b < B → w'.cell? ⟨b, o, none⟩ = w.cell? ⟨b, o, none⟩) : Sl enc sz w' B A L := fun hl => by
  obtain ⟨b, off, e, hb, hc⟩ := h hl
  exact ⟨b, off, e, hb, fun i x hx j u hu => (hk _ _ hb).trans (hc i x hx j u hu)⟩
theorem Sl.more {α : Type} {enc : α → List Value} {sz B C : Nat} {w : World} {A : Option Addr} {L : List α} (h : Sl enc sz w B A L) (hk : B ≤ C) : Sl enc sz w C A L := fun hl => by
  obtain ⟨b, off, e, hb, hc⟩ := h hl
  exact ⟨b, off, e, by omega, hc⟩
theorem Sl.grows {α : Type} {enc : α → List Value} {sz B : Nat} {w w' : World} {A : Option Addr} {L : List α} (h : Sl enc sz w B A L) (hg : Grows w w') (hB : B ≤ w.heap.size) : Sl enc sz w' B A L := h.keep fun b o hb => hg.cells.1 b o (by omega)

def dayOf (l : List Mv) (i : Nat) : Int := (l.getD i (0, 0, 0)).1
/-- Is a day of no calendar, or ahead of the plan's? -/
def early (yr d : Int) : Prop := d < -25567 ∨ 84005 < d ∨ d < Cal.st yr - 25567
instance (yr d : Int) : Decidable (early yr d) := by unfold early; infer_instance
def unfit (x : Mv) : Prop := x.2.1 < 0 ∨ 1000000 < x.2.1 ∨ x.2.2 < 0 ∨ 1000000 < x.2.2
instance (x : Mv) : Decidable (unfit x) := by unfold unfit; infer_instance
/-- What is wrong with move i. -/
def badM (yr : Int) (l : List Mv) (i : Nat) : Int :=
  if early yr (dayOf l i) then 15 else if 0 < i ∧ dayOf l i < dayOf l (i - 1) then 8 else if unfit (l.getD i (0, 0, 0)) then 2 else 0
/-- The first error among the first n. -/
def firstM (yr : Int) (l : List Mv) (n : Nat) : Int := (((List.range n).map (badM yr l)).find? (· ≠ 0)).getD 0
def noPlan (yr ca ex : Int) : Prop := yr < 1900 ∨ 2199 < yr ∨ ca < 0 ∨ 1000000 < ca ∨ ex < 0 ∨ 12 < ex
instance (yr ca ex : Int) : Decidable (noPlan yr ca ex) := by unfold noPlan; infer_instance
def chkV (yr ca ex un : Int) (l : List Mv) : Int :=
  if noPlan yr ca ex then 2 else if un < -25567 ∨ 84005 < un then 15 else if 4096 < l.length then 5 else firstM yr l l.length
theorem firstM_of {yr : Int} {l : List Mv} {n : Nat} : ∀ k, k ≤ n → (∀ j, j < k → badM yr l j = 0) → (k < n → badM yr l k ≠ 0) → firstM yr l n = if k < n then badM yr l k else 0 := by
  intro k hk hz he
  unfold firstM
  have hsp : List.range n = List.range k ++ (List.range (n - k)).map (k + ·) := by
    rw [← List.range_add]; congr 1; omega
  rw [hsp, List.map_append, List.find?_append]
  have h1 : ((List.range k).map (badM yr l)).find? (· ≠ 0) = none := by
    rw [List.find?_eq_none]
    intro x hx
    obtain ⟨j, hj, rfl⟩ := List.mem_map.1 hx
    simp [hz j (List.mem_range.1 hj)]
  rw [h1, Option.none_or]
  by_cases hkn : k < n
  · rw [if_pos hkn]
    obtain ⟨m, hm⟩ : ∃ m, n - k = m + 1 := ⟨n - k - 1, by omega⟩
    rw [hm, List.range_succ_eq_map]
    simp [he hkn]
  · rw [if_neg hkn]
    have : n - k = 0 := by omega
    rw [this]
    rfl
/-- A plan and a day that are right, and few moves. -/
structure Plan (yr ca ex un : Int) (l : List Mv) : Prop where
  plan : ¬ noPlan yr ca ex
  day : ¬ (un < -25567 ∨ 84005 < un)
  few : ¬ 4096 < l.length
theorem chkM_bad {yr ca ex un e : Int} {l : List Mv} {k : Nat} (hp : Plan yr ca ex un l) (hz : ∀ j, j < k → badM yr l j = 0) (hk : k < l.length) (he : badM yr l k = e) (hne : e ≠ 0) : e = chkV yr ca ex un l := by
  unfold chkV
  rw [if_neg hp.plan, if_neg hp.day, if_neg hp.few, firstM_of k (by omega) hz (fun _ => by rw [he]; exact hne), if_pos hk, he]
theorem chkM_ok {yr ca ex un : Int} {l : List Mv} {k : Nat} (hp : Plan yr ca ex un l) (hz : ∀ j, j < k → badM yr l j = 0) (hk : k = l.length) : 0 = chkV yr ca ex un l := by
  subst hk
  unfold chkV
  rw [if_neg hp.plan, if_neg hp.day, if_neg hp.few, firstM_of l.length (Nat.le_refl _) hz (fun h => absurd h (by omega)), if_neg (by omega)]
theorem badM_more {yr : Int} {l : List Mv} {k : Nat} (hz : ∀ j, j < k → badM yr l j = 0) (h : badM yr l k = 0) : ∀ j, j < k + 1 → badM yr l j = 0 := fun j hj => by
  rcases Nat.lt_succ_iff_lt_or_eq.1 hj with h1 | rfl
  · exact hz j h1
  · exact h
theorem dayOf_at {l : List Mv} {i : Nat} {x : Mv} (h : l[i]? = some x) : dayOf l i = x.1 := by unfold dayOf; rw [List.getD, h]; rfl
theorem badM_early {yr : Int} {l : List Mv} {i : Nat} {x : Mv} (h : l[i]? = some x) (he : early yr x.1) : badM yr l i = 15 := by
  unfold badM; rw [dayOf_at h, if_pos he]
theorem badM_order {yr : Int} {l : List Mv} {i : Nat} {x y : Mv} (h : l[i]? = some x) (h' : l[i - 1]? = some y) (he : ¬ early yr x.1) (h0 : 0 < i) (hd : x.1 < y.1) : badM yr l i = 8 := by
  unfold badM; rw [dayOf_at h, dayOf_at h', if_neg he, if_pos ⟨h0, hd⟩]
theorem badM_unfit {yr : Int} {l : List Mv} {i : Nat} {x : Mv} (h : l[i]? = some x) (he : ¬ early yr x.1) (ho : ¬ (0 < i ∧ x.1 < dayOf l (i - 1))) (hu : unfit x) : badM yr l i = 2 := by
  unfold badM; rw [dayOf_at h, if_neg he, if_neg ho, if_pos (by rw [List.getD, h]; exact hu)]
theorem badM_fine {yr : Int} {l : List Mv} {i : Nat} {x : Mv} (h : l[i]? = some x) (he : ¬ early yr x.1) (ho : ¬ (0 < i ∧ x.1 < dayOf l (i - 1))) (hu : ¬ unfit x) : badM yr l i = 0 := by
  unfold badM; rw [dayOf_at h, if_neg he, if_neg ho, if_neg (by rw [List.getD, h]; exact hu)]
/-- What a right list is. -/
theorem badM_zero {yr : Int} {l : List Mv} {i : Nat} {x : Mv} (h : l[i]? = some x) (hz : badM yr l i = 0) : ¬ early yr x.1 ∧ ¬ unfit x ∧ (0 < i → dayOf l (i - 1) ≤ x.1) := by
  unfold badM at hz
  rw [dayOf_at h] at hz
  split at hz
  · omega
  · split at hz
    · omega
    · split at hz
      · omega
      · rename_i a b c
        rw [List.getD, h] at c
        exact ⟨a, c, fun h0 => by omega⟩
theorem chkV_zero {yr ca ex un : Int} {l : List Mv} (h : chkV yr ca ex un l = 0) : Plan yr ca ex un l ∧ ∀ j, j < l.length → badM yr l j = 0 := by
  unfold chkV at h
  split at h
  · omega
  · split at h
    · omega
    · split at h
      · omega
      · rename_i a b c
        refine ⟨⟨a, b, c⟩, fun j hj => ?_⟩
        have key : ∀ n : Nat, n ≤ l.length → ∀ j, j < n → badM yr l j = 0 := by
          intro n
          induction n with
          | zero => intro _ j hj; omega
          | succ n ih =>
            intro hn
            have hz := ih (by omega)
            by_cases hb : badM yr l n = 0
            · exact badM_more hz hb
            · rw [firstM_of n (by omega) hz (fun _ => hb), if_pos (by omega)] at h
              exact absurd h hb
        exact key l.length (Nat.le_refl _) j hj
end Go.Proofs.YtkbpdbfldijeeaaDoor
