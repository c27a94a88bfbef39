/- Merged from: Dp1 Dy1 Og Dy2. -/
import Derived.Test.YtmngghglcgmkeaaGreatDoorUs5
import Derived.Test.YtmngghglcgmkeaaGreatDoorCivs
import Derived.Test.YtmngghglcgmkeaaGreatDoorThos
namespace Go.Proofs.YtmngghglcgmkeaaGreatDoor
open Go.RowKit Go.Sort

/-- From which day on a fact may change anything. -/
def firstF (f : Fa) : Int := if f.ki = 18 then -25567 else if f.ki = 6 ∧ -25567 ≤ f.fr ∧ f.fr ≤ 84005 then f.fr - (f.fr + 25567) % 7 else f.fr
/-- Does a fact count for a person's pay? -/
def payB (p : Int) (f : Fa) : Bool := decide ((f.pe = p ∨ f.pe = 0) ∧ f.ki ≠ 13 ∧ f.ki ≠ 17)
def eachL (p : Int) (X : List Kn) : List Int := X.filterMap fun x => if payB p x.2 = true then some (firstF x.2) else none
def minL : List Int → Int
  | [] => 0
  | a :: l => l.foldl min a
def sinceL (p : Int) (X : List Kn) : Int × Bool := (minL (eachL p X), !(eachL p X == []))
theorem firstF_bd {f : Fa} (h : Fit f) : -9223372036854775808 ≤ firstF f ∧ firstF f ≤ 9223372036854775807 := by
  have := h.fr
  unfold firstF
  split
  · omega
  · split <;> omega
theorem eachL_take {p : Int} {X : List Kn} {k : Nat} {x : Kn} (h : X[k]? = some x) : eachL p (X.take (k + 1)) = eachL p (X.take k) ++ (if payB p x.2 = true then [firstF x.2] else []) := by
  unfold eachL
  rw [List.take_add_one, h, List.filterMap_append]
  congr 1
  by_cases h0 : payB p x.2 = true <;> simp [h0]
theorem eachL_len (p : Int) (X : List Kn) : (eachL p X).length ≤ X.length := List.length_filterMap_le _ _
theorem minL_snoc (l : List Int) (x : Int) : minL (l ++ [x]) = if l = [] then x else min (minL l) x := by
  cases l with
  | nil => rfl
  | cons a l => simp [minL, List.foldl_append]
theorem foldl_min_le : ∀ (l : List Int) (a : Int), l.foldl min a ≤ a ∧ ∀ x ∈ l, l.foldl min a ≤ x
  | [], a => ⟨Int.le_refl _, fun x hx => by cases hx⟩
  | b :: l, a => by
    obtain ⟨h1, h2⟩ := foldl_min_le l (min a b)
    refine ⟨Int.le_trans h1 (Int.min_le_left _ _), fun x hx => ?_⟩
    rcases List.mem_cons.1 hx with rfl | h
    · exact Int.le_trans h1 (Int.min_le_right _ _)
    · exact h2 x h
theorem foldl_min_mem : ∀ (l : List Int) (a : Int), l.foldl min a = a ∨ l.foldl min a ∈ l
  | [], a => .inl rfl
  | b :: l, a => by
    rcases foldl_min_mem l (min a b) with h | h
    · have : min a b = a ∨ min a b = b := by omega
      rcases this with h2 | h2
      · exact .inl (h.trans h2)
      · exact .inr (List.mem_cons.2 (.inl (h.trans h2)))
    · exact .inr (List.mem_cons_of_mem _ h)
theorem minL_le {l : List Int} {x : Int} (h : x ∈ l) : minL l ≤ x := by
  cases l with
  | nil => cases h
  | cons a l =>
    obtain ⟨h1, h2⟩ := foldl_min_le l a
    rcases List.mem_cons.1 h with rfl | h
    · exact h1
    · exact h2 x h
theorem minL_mem {l : List Int} (h : l ≠ []) : minL l ∈ l := by
  cases l with
  | nil => exact absurd rfl h
  | cons a l =>
    rcases foldl_min_mem l a with h | h
    · exact List.mem_cons.2 (.inl h)
    · exact List.mem_cons_of_mem _ h
theorem minL_ext {l m : List Int} (h : ∀ x, x ∈ l ↔ x ∈ m) : minL l = minL m ∧ (l == []) = (m == []) := by
  by_cases h0 : l = []
  · have h1 : m = [] := by
      rw [List.eq_nil_iff_forall_not_mem]
      intro x hx
      have := (h x).2 hx
      rw [h0] at this; cases this
    subst h0; subst h1
    exact ⟨rfl, rfl⟩
  · have h1 : m ≠ [] := by
      intro h1
      have := (h _).1 (minL_mem h0)
      rw [h1] at this; cases this
    have a1 := minL_le ((h _).2 (minL_mem h1))
    have a2 := minL_le ((h _).1 (minL_mem h0))
    refine ⟨by omega, ?_⟩
    rw [beq_eq_false_iff_ne.2 h0, beq_eq_false_iff_ne.2 h1]
theorem mem_eachL {p d : Int} {X : List Kn} : d ∈ eachL p X ↔ ∃ x ∈ X, payB p x.2 = true ∧ firstF x.2 = d := by
  unfold eachL
  rw [List.mem_filterMap]
  constructor
  · rintro ⟨x, hx, h⟩
    by_cases h0 : payB p x.2 = true
    · rw [if_pos h0] at h
      exact ⟨x, hx, h0, Option.some.inj h⟩
    · rw [if_neg h0] at h; cases h
  · rintro ⟨x, hx, h0, rfl⟩
    exact ⟨x, hx, by rw [if_pos h0]⟩
theorem since_ext {p : Int} {X Y : List Kn} (h : ∀ x, x ∈ X ↔ x ∈ Y) : sinceL p X = sinceL p Y := by
  obtain ⟨h1, h2⟩ := minL_ext (l := eachL p X) (m := eachL p Y) (fun d => by
    rw [mem_eachL, mem_eachL]
    exact ⟨fun ⟨x, hx, hr⟩ => ⟨x, (h x).1 hx, hr⟩, fun ⟨x, hx, hr⟩ => ⟨x, (h x).2 hx, hr⟩⟩)
  unfold sinceL
  rw [h1, h2]
theorem since_any {p : Int} {X : List Kn} : (sinceL p X).2 = true ↔ ∃ x ∈ X, payB p x.2 = true := by
  unfold sinceL
  by_cases h0 : eachL p X = []
  · have : ¬ ∃ x ∈ X, payB p x.2 = true := fun ⟨x, hx, h⟩ => by
      have := mem_eachL.2 ⟨x, hx, h, rfl⟩
      rw [h0] at this; cases this
    simp [h0, this]
  · have : ∃ x ∈ X, payB p x.2 = true := by
      obtain ⟨x, hx, h, _⟩ := mem_eachL.1 (minL_mem h0)
      exact ⟨x, hx, h⟩
    simp [h0, this]
theorem since_le {p : Int} {X : List Kn} {x : Kn} (hx : x ∈ X) (h : payB p x.2 = true) : (sinceL p X).1 ≤ firstF x.2 := minL_le (mem_eachL.2 ⟨x, hx, h, rfl⟩)
theorem since_mem {p : Int} {X : List Kn} (h : (sinceL p X).2 = true) : ∃ x ∈ X, payB p x.2 = true ∧ firstF x.2 = (sinceL p X).1 := by
  have h0 : eachL p X ≠ [] := by
    intro h0
    unfold sinceL at h
    rw [h0] at h; cases h
  exact mem_eachL.1 (minL_mem h0)
theorem since_no {p : Int} {X : List Kn} (h : (sinceL p X).2 = false) : (sinceL p X).1 = 0 := by
  unfold sinceL at h ⊢
  by_cases h0 : eachL p X = []
  · rw [h0]; rfl
  · simp [h0] at h

theorem mem_changed {X Y : List Fa} {x : Kn} : x ∈ changedL X Y ↔ x ∈ bothL (forceL X) (forceL Y) := (ss_perm (lt := lt) _).mem_iff
theorem changed_comm (p : Int) (X Y : List Fa) : sinceL p (changedL X Y) = sinceL p (changedL Y X) := since_ext fun x => by
  rw [mem_changed, mem_changed]
  unfold bothL
  rw [List.mem_append, List.mem_append, Or.comm]
theorem changed_self (X : List Fa) : changedL X X = [] := by
  unfold changedL
  rw [bothL_self]
  rfl
theorem mem_but {X Y : List Kn} {x : Kn} : x ∈ butL X Y ↔ x ∈ X ∧ kbs x ∉ Y.map kbs := by
  unfold butL
  rw [List.mem_filter, decide_eq_true_eq]
theorem chain_but {A B C : List Kn} (fA : ∀ x ∈ A, FitK x) (fB : ∀ x ∈ B, FitK x) {x : Kn} (h : x ∈ butL A C) : x ∈ butL A B ∨ x ∈ butL B C := by
  obtain ⟨h1, h2⟩ := mem_but.1 h
  by_cases h3 : kbs x ∈ B.map kbs
  · obtain ⟨y, hy, e⟩ := List.mem_map.1 h3
    have := kbs_inj (fB y hy) (fA x h1) e
    subst this
    exact .inr (mem_but.2 ⟨hy, h2⟩)
  · exact .inl (mem_but.2 ⟨h1, h3⟩)
theorem chain_both {A B C : List Kn} (fA : ∀ x ∈ A, FitK x) (fB : ∀ x ∈ B, FitK x) (fC : ∀ x ∈ C, FitK x) {x : Kn} (h : x ∈ bothL A C) : x ∈ bothL A B ∨ x ∈ bothL B C := by
  unfold bothL at h ⊢
  rw [List.mem_append] at h
  rw [List.mem_append, List.mem_append]
  rcases h with h | h
  · rcases chain_but fA fB h with k | k
    · exact .inl (.inl k)
    · exact .inr (.inl k)
  · rcases chain_but fC fB h with k | k
    · exact .inr (.inr k)
    · exact .inl (.inr k)
theorem force_fit {L : List Fa} (h : ∀ f ∈ L, Fit f) (hl : L.length ≤ 1000000) : ∀ x ∈ forceL L, FitK x := chosen_fit h hl
/-- What is unlike in a first and a third view. -/
theorem since_chain {p : Int} {A B C : List Fa} (fA : ∀ f ∈ A, Fit f) (fB : ∀ f ∈ B, Fit f) (fC : ∀ f ∈ C, Fit f) (hA : A.length ≤ 1000000) (hB : B.length ≤ 1000000) (hC : C.length ≤ 1000000) (h : (sinceL p (changedL A C)).2 = true) :
    ((sinceL p (changedL A B)).2 = true ∧ (sinceL p (changedL A B)).1 ≤ (sinceL p (changedL A C)).1) ∨ ((sinceL p (changedL B C)).2 = true ∧ (sinceL p (changedL B C)).1 ≤ (sinceL p (changedL A C)).1) := by
  obtain ⟨x, hx, hp, he⟩ := since_mem h
  rw [← he]
  rcases chain_both (force_fit fA hA) (force_fit fB hB) (force_fit fC hC) (mem_changed.1 hx) with k | k
  · exact .inl ⟨since_any.2 ⟨x, mem_changed.2 k, hp⟩, since_le (mem_changed.2 k) hp⟩
  · exact .inr ⟨since_any.2 ⟨x, mem_changed.2 k, hp⟩, since_le (mem_changed.2 k) hp⟩
/-- A fact more, that is told. -/
theorem changed_told {L : List Fa} {f : Fa} (hB : Backs L) (fL : ∀ f ∈ L, Fit f) (ff : Fit f) (hl : L.length ≤ 4096) (hk : f.ki ≠ 18) : changedL L (L ++ [f]) = [((L.length : Int) + 1, f)] := by
  unfold changedL
  rw [force_told hB hk, both_told (force_fit fL (by omega)) ?_ ?_]
  · exact ss_one _
  · exact ⟨⟨by show (-9223372036854775808 : Int) ≤ (L.length : Int) + 1; omega, by show (L.length : Int) + 1 ≤ 9223372036854775807; omega⟩, ff⟩
  · intro h
    have := mem_force_n h
    simp only at this
    omega
/-- The persons of whom two views are unlike. -/
def dpL (X Y : List Fa) : List Int := ((personsL X ++ personsL Y).foldl insU []).filter fun p => (sinceL p (changedL X Y)).2
theorem mem_dpL {X Y : List Fa} {p : Int} : p ∈ dpL X Y ↔ (p ∈ personsL X ∨ p ∈ personsL Y) ∧ (sinceL p (changedL X Y)).2 = true := by
  unfold dpL
  rw [List.mem_filter, mem_foldU, List.mem_append]
  simp
theorem sorted_dpL (X Y : List Fa) : (dpL X Y).Pairwise (· < ·) := List.Pairwise.filter _ (sorted_foldU _ _ List.Pairwise.nil)
theorem dpL_self (X : List Fa) : dpL X X = [] := by
  rw [List.eq_nil_iff_forall_not_mem]
  intro p hp
  have h := (mem_dpL.1 hp).2
  rw [changed_self] at h
  cases h
end Go.Proofs.YtmngghglcgmkeaaGreatDoor

namespace Go.Proofs.YtmngghglcgmkeaaGreatDoor
open Go.RowKit Go.Sort

theorem wdV_in {d : Int} (h : -25567 ≤ d ∧ d ≤ 84005) : wdV d = (d + 25567) % 7 := if_pos h
theorem wdV_out {d : Int} (h : ¬ (-25567 ≤ d ∧ d ≤ 84005)) : wdV d = -1 := if_neg h
end Go.Proofs.YtmngghglcgmkeaaGreatDoor

namespace Go.Proofs.YtmngghglcgmkeaaGreatDoor
open Go.RowKit Go.Sort

section
variable {α : Type} {enc : α → List Value} {k : Nat} {e : TypeId} {B : Nat} {v : Value} {l : List α} {w w' w0 : World}
theorem own_sl (hk : ∀ x, (enc x).length = k) (h : Own enc k e B v l w) : ∃ A cap, v = .slice A l.length cap ∧ l.length ≤ cap ∧ Sl enc k w w.heap.size A l := by
  by_cases h0 : l = []
  · subst h0
    rcases h.2 with ⟨rfl, _⟩ | ⟨g, cap, cur, rfl, hb, hg, hn0, hcm, hcs, ht⟩
    · exact ⟨none, 0, rfl, Nat.le_refl _, fun hl => absurd rfl hl⟩
    · exact ⟨some ⟨g, 0, none⟩, cap, rfl, Nat.zero_le _, fun hl => absurd rfl hl⟩
  · obtain ⟨g, cap, rfl, hb, hr⟩ := h.row hk h0
    exact ⟨some ⟨g, 0, none⟩, cap, rfl, hr.le, fun _ => ⟨g, 0, rfl, hr.lt, fun i x hx j u hu => by rw [Nat.zero_add]; exact hr.cell hx hu⟩⟩
theorem own_down {B' : Nat} (h : Own enc k e B v l w) (hB : B' ≤ B) : Own enc k e B' v l w := by
  rcases h with ⟨h1, h2⟩
  refine ⟨h1, ?_⟩
  rcases h2 with h0 | ⟨g, cap, cur, hv, hb, hr⟩
  · exact .inl h0
  · exact .inr ⟨g, cap, cur, hv, Nat.le_trans hB hb, hr⟩
theorem own_bel (ho : Own enc k e B v l w) (hb : Below w.heap.size w w') : Own enc k e B v l w' :=
  ho.none_ ⟨hb.os, hb.tape, hb.output, hb.size, fun i hi _ => hb.block i hi⟩
theorem bel_own (h : Below B w0 w) (hB : B ≤ w.heap.size) (ho : Own enc k e B v l w) (hg : w.grownBy w' v.ownBlock) : Below B w0 w' :=
  h.trans ⟨hg.os, hg.tape, hg.output, hg.size, fun i hi => hg.block i (by omega) (ho.far hi)⟩
theorem own_empty {h : Nat} (hE : Bk h e #[] w) (hb : B ≤ h) : Own enc k e B (.slice (some ⟨h, 0, none⟩) 0 0) [] w :=
  ⟨by simp [rowOf], .inr ⟨h, 0, #[], rfl, hb, hE, Nat.le_refl _, by simp [maxLen], by simp, by simp [rowOf]⟩⟩
/-- A slice's element, if it has one cell. -/
theorem Sl.one {A : Option Addr} {L : List α} {C : Nat} (h : Sl enc 1 w C A L) (hl : L ≠ []) : ∃ b off, A = some ⟨b, off, none⟩ ∧ b < C ∧ ∀ (i : Nat) x u, L[i]? = some x → (enc x)[0]? = some u → w.cell? ⟨b, off + i, none⟩ = some u := by
  obtain ⟨b, off, e1, hb, hc⟩ := h hl
  exact ⟨b, off, e1, hb, fun i x u hx hu => by have := hc i x hx 0 u hu; simpa using this⟩
end
/-- Days. -/
def encD (x : Int) : List Value := [.int .i64 x]
theorem encD_len (x : Int) : (encD x).length = 1 := rfl
theorem encD_one (x : Int) : ∀ u ∈ encD x, u.oneCell' = true := by
  intro u hu
  rw [List.mem_singleton.1 hu]; rfl
abbrev OwnD (B : Nat) (v : Value) (l : List Int) (w : World) : Prop := Own encD 1 24 B v l w
theorem dayInfo : (Tryz.prog.info? 24).map (fun i => (i.zero, i.size, i.bytes)) = some (some (.int .i64 0), 1, 8) := by kernel_rfl
theorem newsD (x : Int) (w : World) : ∀ j u, (encD x)[j]? = some u → (w.alloc (.cells #[.int .i64 x] 24)).cell? ⟨w.heap.size, j, none⟩ = some u := by
  intro j u hu
  have h := Bk.new w 24 #[.int .i64 x]
  rw [h.cell]
  simpa [encD] using hu
abbrev SlD (w : World) (A : Option Addr) (L : List Int) : Prop := Sl encD 1 w w.heap.size A L
end Go.Proofs.YtmngghglcgmkeaaGreatDoor

namespace Go.Proofs.YtmngghglcgmkeaaGreatDoor
open Go.RowKit Go.Sort

theorem payB_eq (p : Int) (f : Fa) : payB p f = (((f.pe == p) || (f.pe == 0)) && (f.ki != 13) && (f.ki != 17)) := by
  unfold payB
  by_cases h1 : f.pe = p <;> by_cases h2 : f.pe = 0 <;> by_cases h3 : f.ki = 13 <;> by_cases h4 : f.ki = 17 <;> simp [h1, h2, h3, h4]
abbrev SlK' (w : World) (A : Option Addr) (L : List Kn) : Prop := Sl encK 9 w w.heap.size A L
end Go.Proofs.YtmngghglcgmkeaaGreatDoor
