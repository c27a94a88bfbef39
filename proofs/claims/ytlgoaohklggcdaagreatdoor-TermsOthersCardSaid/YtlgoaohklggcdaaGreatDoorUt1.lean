/- What a told store holds; the facts of a person and a kind (plain). -/
import Derived.Test.YtlgoaohklggcdaaGreatDoorUs5
import Derived.Test.YtlgoaohklggcdaaGreatDoorChgd
import Derived.Deep.DeepCutAuto
import Derived.Deep.LoopGhost
namespace Go.Proofs.YtlgoaohklggcdaaGreatDoor
open Go.RowKit Go.Sort

/-- Whence the facts of a kind are taken. -/
def fromL (L : List Fa) (ki : Int) : List Kn := if ki = 18 then allK L L.length else forceL L
def factsR (L : List Fa) (pe ki : Int) : List Kn := (fromL L ki).filter fun x => ofPK pe ki x.2
theorem fromL_len (L : List Fa) (ki : Int) : (fromL L ki).length ≤ L.length := by
  unfold fromL
  split
  · exact allK_len _ _
  · exact chosen_len _ _ _
theorem filt_take {p : Kn → Bool} {X : List Kn} {i : Nat} {x : Kn} (h : X[i]? = some x) : (X.take (i + 1)).filter p = (X.take i).filter p ++ (if p x = true then [x] else []) := by
  rw [List.take_add_one, h]
  simp [List.filter_cons]
end Go.Proofs.YtlgoaohklggcdaaGreatDoor

namespace Go.Proofs.YtlgoaohklggcdaaGreatDoor
open Go.RowKit Go.Sort

/-- In a store that was told a Cancel speaks of an earlier fact that is none. -/
def Told (L : List Fa) : Prop := ∀ (i : Nat) (f : Fa), L[i]? = some f → f.ki = 18 → 1 ≤ f.nu ∧ f.nu ≤ i ∧ ∀ g, L[(f.nu - 1).toNat]? = some g → g.ki ≠ 18
theorem Told.nil : Told [] := fun i f h => by simp at h
theorem Told.taken {L : List Fa} (h : Told L) {i : Nat} {f : Fa} (hf : L[i]? = some f) (h18 : f.ki = 18) : takenB L ((i : Int) + 1) = false := by
  unfold takenB
  rw [List.any_eq_false]
  intro g hg
  obtain ⟨j, hj⟩ := List.getElem?_of_mem hg
  intro hc
  have hc2 := of_decide_eq_true hc
  obtain ⟨h1, h2, h3⟩ := h j g hj hc2.1
  refine h3 f ?_ h18
  rw [show (g.nu - 1).toNat = i by omega]
  exact hf
theorem Told.take {L : List Fa} (h : Told L) (n : Nat) : Told (L.take n) := by
  have hg : ∀ (i : Nat) (f : Fa), (L.take n)[i]? = some f → L[i]? = some f := fun i f hf => by
    rw [List.getElem?_take] at hf
    split at hf
    · exact hf
    · cases hf
  intro i f hf h18
  obtain ⟨h1, h2, h3⟩ := h i f (hg i f hf) h18
  exact ⟨h1, h2, fun g hg' => h3 g (hg _ g hg')⟩
theorem Told.add {L : List Fa} {f : Fa} (h : Told L) : Told (addL L f).1 := by
  rcases addL_or L f with ⟨e, _, he⟩ | ⟨he, _, hc, _, hcan⟩
  · rw [he]; exact h
  · rw [he]
    intro i g hg h18
    have hg : (L ++ [f])[i]? = some g := hg
    rcases Nat.lt_or_ge i L.length with hi | hi
    · rw [List.getElem?_append_left hi] at hg
      obtain ⟨h1, h2, h3⟩ := h i g hg h18
      refine ⟨h1, h2, fun g' hg' => h3 g' ?_⟩
      have hg' : (L ++ [f])[(g.nu - 1).toNat]? = some g' := hg'
      rwa [List.getElem?_append_left (by omega)] at hg'
    · rw [List.getElem?_append_right hi] at hg
      have hi2 : i = L.length := by
        have := (List.getElem?_eq_some_iff.1 hg).1
        simp at this; omega
      subst hi2
      have e : f = g := by simpa using hg
      subst e
      obtain ⟨h1, h2⟩ := chk_cancel hc h18
      unfold canE at hcan
      rw [if_neg (fun hn => hn h18)] at hcan
      by_cases hlt : (L.length : Int) < f.nu
      · rw [if_pos hlt] at hcan; omega
      · rw [if_neg hlt] at hcan
        refine ⟨h1, by omega, fun g' hg' => ?_⟩
        have hg' : (L ++ [f])[(f.nu - 1).toNat]? = some g' := hg'
        rw [List.getElem?_append_left (by omega)] at hg'
        intro hb
        rw [hg'] at hcan
        simp only [hb, if_true] at hcan
        omega
theorem told_tell : ∀ {l L : List Fa}, Told L → Told (tellL L l)
  | [], _, h => h
  | _ :: l, _, h => told_tell (l := l) h.add
theorem filt_force (L : List Fa) (pe ki : Int) (hk : ki ≠ 18) : ∀ k, k ≤ L.length → (chosen notCancel L k).filter (fun x => ofPK pe ki x.2) = chosen (ofPK pe ki) L k := by
  intro k
  induction k with
  | zero => exact fun _ => rfl
  | succ k ih =>
    intro hk2
    obtain ⟨f, hf⟩ : ∃ f, L[k]? = some f := ⟨_, List.getElem?_eq_getElem (by omega)⟩
    rw [chosen_succ _ hf, chosen_succ _ hf, List.filter_append, ih (by omega)]
    congr 1
    by_cases h1 : takenB L ((k : Int) + 1) = true
    · rw [if_pos h1, if_pos h1]; rfl
    · rw [if_neg h1, if_neg h1]
      by_cases h2 : ofPK pe ki f = true
      · have h3 : f.pe = pe ∧ f.ki = ki := of_decide_eq_true h2
        have h4 : notCancel f = true := bne_iff_ne.2 (by rw [h3.2]; exact hk)
        rw [if_pos h4, if_pos h2]
        simp [h2]
      · rw [if_neg h2]
        by_cases h4 : notCancel f = true
        · rw [if_pos h4]; simp [h2]
        · rw [if_neg h4]; rfl
theorem filt_all (L : List Fa) (pe : Int) (h : Told L) : ∀ k, k ≤ L.length → (allK L k).filter (fun x => ofPK pe 18 x.2) = chosen (ofPK pe 18) L k := by
  intro k
  induction k with
  | zero => exact fun _ => rfl
  | succ k ih =>
    intro hk2
    obtain ⟨f, hf⟩ : ∃ f, L[k]? = some f := ⟨_, List.getElem?_eq_getElem (by omega)⟩
    rw [allK_succ hf, chosen_succ _ hf, List.filter_append, ih (by omega)]
    congr 1
    by_cases h2 : ofPK pe 18 f = true
    · have h3 : f.pe = pe ∧ f.ki = 18 := of_decide_eq_true h2
      have h4 := h.taken hf h3.2
      rw [h4, if_neg (by decide), if_pos h2]
      simp [h2]
    · by_cases h1 : takenB L ((k : Int) + 1) = true
      · rw [if_pos h1]; simp [h2]
      · rw [if_neg h1, if_neg h2]; simp [h2]
theorem factsR_eq {L : List Fa} (h : Told L) (pe ki : Int) : factsR L pe ki = chosen (ofPK pe ki) L L.length := by
  unfold factsR fromL
  by_cases hk : ki = 18
  · subst hk
    rw [if_pos rfl]
    exact filt_all L pe h L.length (Nat.le_refl _)
  · rw [if_neg hk]
    exact filt_force L pe ki hk L.length (Nat.le_refl _)
end Go.Proofs.YtlgoaohklggcdaaGreatDoor

namespace Go.Proofs.YtlgoaohklggcdaaGreatDoor
open Go.RowKit Go.Sort

theorem OwnU.slU {B : Nat} {v : Value} {l : List Int} {w : World} (h : OwnU B v l w) : ∃ A cap, v = .slice A l.length cap ∧ l.length ≤ cap ∧ SlU w A l ∧ ∀ b off, A = some ⟨b, off, none⟩ → b < w.heap.size := by
  rcases h.shape with ⟨rfl, rfl⟩ | ⟨g, cap, rfl, hb, hg, hc, hcell⟩
  · exact ⟨none, 0, rfl, Nat.le_refl _, SlU.nil rfl, fun b off e => by cases e⟩
  · refine ⟨some ⟨g, 0, none⟩, cap, rfl, hc, fun _ => ⟨g, 0, rfl, fun i x hx => by rw [Nat.zero_add]; exact hcell i x hx⟩, fun b off e => ?_⟩
    injection e with e
    injection e with e
    omega

/-- A slice of numbers in memory that is there. -/
def RU (w : World) (A : Option Addr) (l : List Int) : Prop := SlU w A l ∧ ∀ b off, A = some ⟨b, off, none⟩ → b < w.heap.size
theorem RU.below {w w' : World} {A : Option Addr} {l : List Int} (h : RU w A l) (hb : Below w.heap.size w w') : RU w' A l :=
  ⟨h.1.below h.2 hb, fun b off e => Nat.lt_of_lt_of_le (h.2 b off e) hb.size⟩
theorem RU.open_ {w : World} {A : Option Addr} {l : List Int} (h : RU w A l) (hl : l ≠ []) : ∃ b off, A = some ⟨b, off, none⟩ ∧ b < w.heap.size ∧ ∀ (i : Nat) (x : Int), l[i]? = some x → w.cell? ⟨b, off + i, none⟩ = some (.int .u32 x) := by
  obtain ⟨b, off, e, hc⟩ := h.1 hl
  exact ⟨b, off, e, h.2 b off e, hc⟩
theorem OwnU.one {W : World} {h B : Nat} {x : Int} (hE : Bk h 23 #[.int .u32 x] W) (hb : B ≤ h) : OwnU B (.slice (some ⟨h, 0, none⟩) 1 1) [x] W :=
  ⟨rfl, .inr ⟨h, 1, #[.int .u32 x], rfl, hb, hE, Nat.le_refl _, by simp [maxLen], rfl, rfl⟩⟩
theorem OwnU.ru {B : Nat} {v : Value} {l : List Int} {w : World} (h : OwnU B v l w) : ∃ A cap, v = .slice A l.length cap ∧ RU w A l := by
  obtain ⟨A, cap, h1, _, h3, h4⟩ := h.slU
  exact ⟨A, cap, h1, h3, h4⟩
end Go.Proofs.YtlgoaohklggcdaaGreatDoor
