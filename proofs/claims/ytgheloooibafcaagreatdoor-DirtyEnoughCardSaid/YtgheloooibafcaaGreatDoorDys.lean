/- Merged from: Dp1 Dy1 Og Dy2. -/
import Derived.Test.YtgheloooibafcaaGreatDoorUs5
import Derived.Test.YtgheloooibafcaaGreatDoorCivs
import Derived.Test.YtgheloooibafcaaGreatDoorThos
namespace Go.Proofs.YtgheloooibafcaaGreatDoor
open Go.RowKit Go.Sort

/-- From which day on a fact may change anything. -/
def firstF (f : Fa) : Int := if f.ki = 18 then -25567 else if f.ki = 6 ∧ -25567 ≤ f.fr ∧ f.fr ≤ 84005 then f.fr - (f.fr + 25567) % 7 else f.fr
/-- Does a fact count for a person's pay? -/
def payB (p : Int) (f : Fa) : Bool := decide ((f.pe = p ∨ f.pe = 0) ∧ f.ki ≠ 13 ∧ f.ki ≠ 17)
def eachL (p : Int) (X : List Kn) : List Int := X.filterMap fun x => if payB p x.2 = true then some (firstF x.2) else none
def minL : List Int → Int
  | [] => 0
  | a :: l => l.foldl min a
def sinceL (p : Int) (X : List Kn) : Int × Bool := (minL (eachL p X), !(eachL p X == []))
theorem firstF_bd {f : Fa} (h : Fit f) : -9223372036854775808 ≤ firstF f ∧ firstF f ≤ 9223372036854775807 := by
  have := h.fr
  unfold firstF
  split
  · omega
  · split <;> omega
theorem eachL_take {p : Int} {X : List Kn} {k : Nat} {x : Kn} (h : X[k]? = some x) : eachL p (X.take (k + 1)) = eachL p (X.take k) ++ (if payB p x.2 = true then [firstF x.2] else []) := by
  unfold eachL
  rw [List.take_add_one, h, List.filterMap_append]
  congr 1
  by_cases h0 : payB p x.2 = true <;> simp [h0]
theorem eachL_len (p : Int) (X : List Kn) : (eachL p X).length ≤ X.length := List.length_filterMap_le _ _
theorem minL_snoc (l : List Int) (x : Int) : minL (l ++ [x]) = if l = [] then x else min (minL l) x := by
  cases l with
  | nil => rfl
  | cons a l => simp [minL, List.foldl_append]
theorem foldl_min_le : ∀ (l : List Int) (a : Int), l.foldl min a ≤ a ∧ ∀ x ∈ l, l.foldl min a ≤ x
  | [], a => ⟨Int.le_refl _, fun x hx => by cases hx⟩
  | b :: l, a => by
    obtain ⟨h1, h2⟩ := foldl_min_le l (min a b)
    refine ⟨Int.le_trans h1 (Int.min_le_left _ _), fun x hx => ?_⟩
    rcases List.mem_cons.1 hx with rfl | h
    · exact Int.le_trans h1 (Int.min_le_right _ _)
    · exact h2 x h
theorem foldl_min_mem : ∀ (l : List Int) (a : Int), l.foldl min a = a ∨ l.foldl min a ∈ l
  | [], a => .inl rfl
  | b :: l, a => by
    rcases foldl_min_mem l (min a b) with h | h
    · have : min a b = a ∨ min a b = b := by omega
      rcases this with h2 | h2
      · exact .inl (h.trans h2)
      · exact .inr (List.mem_cons.2 (.inl (h.trans h2)))
    · exact .inr (List.mem_cons_of_mem _ h)
theorem minL_le {l : List Int} {x : Int} (h : x ∈ l) : minL l ≤ x := by
  cases l with
  | nil => cases h
  | cons a l =>
    obtain ⟨h1, h2⟩ := foldl_min_le l a
    rcases List.mem_cons.1 h with rfl | h
    · exact h1
    · exact h2 x h
theorem minL_mem {l : List Int} (h : l ≠ []) : minL l ∈ l := by
  cases l with
  | nil => exact absurd rfl h
  | cons a l =>
    rcases foldl_min_mem l a with h | h
    · exact List.mem_cons.2 (.inl h)
    · exact List.mem_cons_of_mem _ h
theorem minL_ext {l m : List Int} (h : ∀ x, x ∈ l ↔ x ∈ m) : minL l = minL m ∧ (l == []) = (m == []) := by
  by_cases h0 : l = []
  · have h1 : m = [] := by
      rw [List.eq_nil_iff_forall_not_mem]
      intro x hx
      have := (h x).2 hx
      rw [h0] at this; cases this
    subst h0; subst h1
    exact ⟨rfl, rfl⟩
  · have h1 : m ≠ [] := by
      intro h1
      have := (h _).1 (minL_mem h0)
      rw [h1] at this; cases this
    have a1 := minL_le ((h _).2 (minL_mem h1))
    have a2 := minL_le ((h _).1 (minL_mem h0))
    refine ⟨by omega, ?_⟩
    rw [beq_eq_false_iff_ne.2 h0, beq_eq_false_iff_ne.2 h1]
theorem mem_eachL {p d : Int} {X : List Kn} : d ∈ eachL p X ↔ ∃ x ∈ X, payB p x.2 = true ∧ firstF x.2 = d := by
  unfold eachL
  rw [List.mem_filterMap]
  constructor
  · rintro ⟨x, hx, h⟩
    by_cases h0 : payB p x.2 = true
    · rw [if_pos h0] at h
      exact ⟨x, hx, h0, Option.some.inj h⟩
    · rw [if_neg h0] at h; cases h
  · rintro ⟨x, hx, h0, rfl⟩
    exact ⟨x, hx, by rw [if_pos h0]⟩
theorem since_ext {p : Int} {X Y : List Kn} (h : ∀ x, x ∈ X ↔ x ∈ Y) : sinceL p X = sinceL p Y := by
  obtain ⟨h1, h2⟩ := minL_ext (l := eachL p X) (m := eachL p Y) (fun d => by
    rw [mem_eachL, mem_eachL]
    exact ⟨fun ⟨x, hx, hr⟩ => ⟨x, (h x).1 hx, hr⟩, fun ⟨x, hx, hr⟩ => ⟨x, (h x).2 hx, hr⟩⟩)
  unfold sinceL
  rw [h1, h2]
theorem since_any {p : Int} {X : List Kn} : (sinceL p X).2 = true ↔ ∃ x ∈ X, payB p x.2 = true := by
  unfold sinceL
  by_cases h0 : eachL p X = []
  · have : ¬ ∃ x ∈ X, payB p x.2 = true := fun ⟨x, hx, h⟩ => by
      have := mem_eachL.2 ⟨x, hx, h, rfl⟩
      rw [h0] at this; cases this
    simp [h0, this]
  · have : ∃ x ∈ X, payB p x.2 = true := by
      obtain ⟨x, hx, h, _⟩ := mem_eachL.1 (minL_mem h0)
      exact ⟨x, hx, h⟩
    simp [h0, this]
theorem since_le {p : Int} {X : List Kn} {x : Kn} (hx : x ∈ X) (h : payB p x.2 = true) : (sinceL p X).1 ≤ firstF x.2 := minL_le (mem_eachL.2 ⟨x, hx, h, rfl⟩)
theorem since_mem {p : Int} {X : List Kn} (h : (sinceL p X).2 = true) : ∃ x ∈ X, payB p x.2 = true ∧ firstF x.2 = (sinceL p X).1 := by
  have h0 : eachL p X ≠ [] := by
    intro h0
    unfold sinceL at h
    rw [h0] at h; cases h
  exact mem_eachL.1 (minL_mem h0)
theorem since_no {p : Int} {X : List Kn} (h : (sinceL p X).2 = false) : (sinceL p X).1 = 0 := by
  unfold sinceL at h ⊢
  by_cases h0 : eachL p X = []
  · rw [h0]; rfl
  · simp [h0] at h

theorem mem_changed {X Y : List Fa} {x : Kn} : x ∈ changedL X Y ↔ x ∈ bothL (forceL X) (forceL Y) := (ss_perm (lt := lt) _).mem_iff
theorem changed_comm (p : Int) (X Y : List Fa) : sinceL p (changedL X Y) = sinceL p (changedL Y X) := since_ext fun x => by
  rw [mem_changed, mem_changed]
  unfold bothL
  rw [List.mem_append, List.mem_append, Or.comm]
theorem changed_self (X : List Fa) : changedL X X = [] := by
  unfold changedL
  rw [bothL_self]
  rfl
theorem mem_but {X Y : List Kn} {x : Kn} : x ∈ butL X Y ↔ x ∈ X ∧ kbs x ∉ Y.map kbs := by
  unfold butL
  rw [List.mem_filter, decide_eq_true_eq]
theorem chain_but {A B C : List Kn} (fA : ∀ x ∈ A, FitK x) (fB : ∀ x ∈ B, FitK x) {x : Kn} (h : x ∈ butL A C) : x ∈ butL A B ∨ x ∈ butL B C := by
  obtain ⟨h1, h2⟩ := mem_but.1 h
  by_cases h3 : kbs x ∈ B.map kbs
  · obtain ⟨y, hy, e⟩ := List.mem_map.1 h3
    have := kbs_inj (fB y hy) (fA x h1) e
    subst this
    exact .inr (mem_but.2 ⟨hy, h2⟩)
  · exact .inl (mem_but.2 ⟨h1, h3⟩)
theorem chain_both {A B C : List Kn} (fA : ∀ x ∈ A, FitK x) (fB : ∀ x ∈ B, FitK x) (fC : ∀ x ∈ C, FitK x) {x : Kn} (h : x ∈ bothL A C) : x ∈ bothL A B ∨ x ∈ bothL B C := by
  unfold bothL at h ⊢
  rw [List.mem_append] at h
  rw [List.mem_append, List.mem_append]
  rcases h with h | h
  · rcases chain_but fA fB h with k | k
    · exact .inl (.inl k)
    · exact .inr (.inl k)
  · rcases chain_but fC fB h with k | k
    · exact .inr (.inr k)
    · exact .inl (.inr k)
theorem force_fit {L : List Fa} (h : ∀ f ∈ L, Fit f) (hl : L.length ≤ 1000000) : ∀ x ∈ forceL L, FitK x := chosen_fit h hl
/-- What is unlike in a first and a third view. -/
theorem since_chain {p : Int} {A B C : List Fa} (fA : ∀ f ∈ A, Fit f) (fB : ∀ f ∈ B, Fit f) (fC : ∀ f ∈ C, Fit f) (hA : A.length ≤ 1000000) (hB : B.length ≤ 1000000) (hC : C.length ≤ 1000000) (h : (sinceL p (changedL A C)).2 = true) :
    ((sinceL p (changedL A B)).2 = true ∧ (sinceL p (changedL A B)).1 ≤ (sinceL p (changedL A C)).1) ∨ ((sinceL p (changedL B C)).2 = true ∧ (sinceL p (changedL B C)).1 ≤ (sinceL p (changedL A C)).1) := by
  obtain ⟨x, hx, hp, he⟩ := since_mem h
  rw [← he]
  rcases chain_both (force_fit fA hA) (force_fit fB hB) (force_fit fC hC) (mem_changed.1 hx) with k | k
  · exact .inl ⟨since_any.2 ⟨x, mem_changed.2 k, hp⟩, since_le (mem_changed.2 k) hp⟩
  · exact .inr ⟨since_any.2 ⟨x, mem_changed.2 k, hp⟩, since_le (mem_changed.2 k) hp⟩
/-- A fact more, that is told. -/
theorem changed_told {L : List Fa} {f : Fa} (hB : Backs L) (fL : ∀ f ∈ L, Fit f) (ff : Fit f) (hl : L.length ≤ 4096) (hk : f.ki ≠ 18) : changedL L (L ++ [f]) = [((L.length : Int) + 1, f)] := by
  unfold changedL
  rw [force_told hB hk, both_told (force_fit fL (by omega)) ?_ ?_]
  · exact ss_one _
  · exact ⟨⟨by show (-9223372036854775808 : Int) ≤ (L.length : Int) + 1; omega, by show (L.length : Int) + 1 ≤ 9223372036854775807; omega⟩, ff⟩
  · intro h
    have := mem_force_n h
    simp only at this
    omega
/-- The persons of whom two views are unlike. -/
def dpL (X Y : List Fa) : List Int := ((personsL X ++ personsL Y).foldl insU []).filter fun p => (sinceL p (changedL X Y)).2
theorem mem_dpL {X Y : List Fa} {p : Int} : p ∈ dpL X Y ↔ (p ∈ personsL X ∨ p ∈ personsL Y) ∧ (sinceL p (changedL X Y)).2 = true := by
  unfold dpL
  rw [List.mem_filter, mem_foldU, List.mem_append]
  simp
theorem sorted_dpL (X Y : List Fa) : (dpL X Y).Pairwise (· < ·) := List.Pairwise.filter _ (sorted_foldU _ _ List.Pairwise.nil)
theorem dpL_self (X : List Fa) : dpL X X = [] := by
  rw [List.eq_nil_iff_forall_not_mem]
  intro p hp
  have h := (mem_dpL.1 hp).2
  rw [changed_self] at h
  cases h
end Go.Proofs.YtgheloooibafcaaGreatDoor

namespace Go.Proofs.YtgheloooibafcaaGreatDoor
open Go.RowKit Go.Sort

theorem wdV_in {d : Int} (h : -25567 ≤ d ∧ d ≤ 84005) : wdV d = (d + 25567) % 7 := if_pos h
theorem wdV_out {d : Int} (h : ¬ (-25567 ≤ d ∧ d ≤ 84005)) : wdV d = -1 := if_neg h
set_option maxRecDepth 10000 in
theorem dy_First (f : Fa) (w : World) (hf : Fit f) : Calls Tryz.prog 28 #[.agg (FA f)] w fun e w' => e = .returned (.int .i64 (firstF f)) ∧ Below w.heap.size w w' := by
  have HB := Lib.hid (bAlloc w (.cells (FA f) 39))
  have HW := Lib.hid (fun W => civ_Weekday f.fr W hf.fr)
  obtain ⟨wd, hwd⟩ : ∃ x, wdV f.fr = x := ⟨_, rfl⟩
  rw [hwd] at HW
  by_cases h1 : f.ki = 18
  · have b1 : (f.ki == 18) = true := beq_iff_eq.2 h1
    have HF : Hid (firstF f = -25567) := Lib.hid (if_pos h1)
    clear h1 hwd hf
    unfold FA at HB ⊢
    go_enter Tryz.func28, Tryz.ntmps28
    go_wp2_with fail
    refine (HW.out _).mono ?_
    rintro e w1 ⟨rfl, rfl⟩
    go_wp2
    go_ret
    exact ⟨ret_i HF.out.symm, HB.out⟩
  · have b1 : (f.ki == 18) = false := beq_eq_false_iff_ne.2 h1
    by_cases h2 : f.ki = 6
    · have b2 : (f.ki == 6) = true := beq_iff_eq.2 h2
      by_cases h3 : -25567 ≤ f.fr ∧ f.fr ≤ 84005
      · have HF : Hid (firstF f = f.fr - wd) := Lib.hid (by rw [← hwd, wdV_in h3]; unfold firstF; rw [if_neg h1, if_pos ⟨h2, h3⟩])
        have hw0 : 0 ≤ wd := by rw [← hwd, wdV_in h3]; omega
        have hw6 : wd ≤ 6 := by rw [← hwd, wdV_in h3]; omega
        have h31 := h3.1
        have h32 := h3.2
        clear h1 h2 h3 hwd hf
        unfold FA at HB ⊢
        go_enter Tryz.func28, Tryz.ntmps28
        go_wp2_with fail
        refine (HW.out _).mono ?_
        rintro e w1 ⟨rfl, rfl⟩
        go_wp2
        go_ret
        exact ⟨ret_i HF.out.symm, HB.out⟩
      · have HF : Hid (firstF f = f.fr) := Lib.hid (by unfold firstF; rw [if_neg h1, if_neg fun h => h3 h.2])
        have hw0 : wd = -1 := by rw [← hwd, wdV_out h3]
        subst hw0
        clear h1 h2 h3 hwd hf
        unfold FA at HB ⊢
        go_enter Tryz.func28, Tryz.ntmps28
        go_wp2_with fail
        refine (HW.out _).mono ?_
        rintro e w1 ⟨rfl, rfl⟩
        go_wp2
        go_ret
        exact ⟨ret_i HF.out.symm, HB.out⟩
    · have b2 : (f.ki == 6) = false := beq_eq_false_iff_ne.2 h2
      have HF : Hid (firstF f = f.fr) := Lib.hid (by unfold firstF; rw [if_neg h1, if_neg fun h => h2 h.1])
      clear h1 h2 hwd hf
      unfold FA at HB ⊢
      go_enter Tryz.func28, Tryz.ntmps28
      go_wp2_with fail
      refine (HW.out _).mono ?_
      rintro e w1 ⟨rfl, rfl⟩
      go_wp2
      go_ret
      exact ⟨ret_i HF.out.symm, HB.out⟩
end Go.Proofs.YtgheloooibafcaaGreatDoor

namespace Go.Proofs.YtgheloooibafcaaGreatDoor
open Go.RowKit Go.Sort

section
variable {α : Type} {enc : α → List Value} {k : Nat} {e : TypeId} {B : Nat} {v : Value} {l : List α} {w w' w0 : World}
theorem own_sl (hk : ∀ x, (enc x).length = k) (h : Own enc k e B v l w) : ∃ A cap, v = .slice A l.length cap ∧ l.length ≤ cap ∧ Sl enc k w w.heap.size A l := by
  by_cases h0 : l = []
  · subst h0
    rcases h.2 with ⟨rfl, _⟩ | ⟨g, cap, cur, rfl, hb, hg, hn0, hcm, hcs, ht⟩
    · exact ⟨none, 0, rfl, Nat.le_refl _, fun hl => absurd rfl hl⟩
    · exact ⟨some ⟨g, 0, none⟩, cap, rfl, Nat.zero_le _, fun hl => absurd rfl hl⟩
  · obtain ⟨g, cap, rfl, hb, hr⟩ := h.row hk h0
    exact ⟨some ⟨g, 0, none⟩, cap, rfl, hr.le, fun _ => ⟨g, 0, rfl, hr.lt, fun i x hx j u hu => by rw [Nat.zero_add]; exact hr.cell hx hu⟩⟩
theorem own_down {B' : Nat} (h : Own enc k e B v l w) (hB : B' ≤ B) : Own enc k e B' v l w := by
  rcases h with ⟨h1, h2⟩
  refine ⟨h1, ?_⟩
  rcases h2 with h0 | ⟨g, cap, cur, hv, hb, hr⟩
  · exact .inl h0
  · exact .inr ⟨g, cap, cur, hv, Nat.le_trans hB hb, hr⟩
theorem own_bel (ho : Own enc k e B v l w) (hb : Below w.heap.size w w') : Own enc k e B v l w' :=
  ho.none_ ⟨hb.os, hb.tape, hb.output, hb.size, fun i hi _ => hb.block i hi⟩
theorem bel_own (h : Below B w0 w) (hB : B ≤ w.heap.size) (ho : Own enc k e B v l w) (hg : w.grownBy w' v.ownBlock) : Below B w0 w' :=
  h.trans ⟨hg.os, hg.tape, hg.output, hg.size, fun i hi => hg.block i (by omega) (ho.far hi)⟩
theorem own_empty {h : Nat} (hE : Bk h e #[] w) (hb : B ≤ h) : Own enc k e B (.slice (some ⟨h, 0, none⟩) 0 0) [] w :=
  ⟨by simp [rowOf], .inr ⟨h, 0, #[], rfl, hb, hE, Nat.le_refl _, by simp [maxLen], by simp, by simp [rowOf]⟩⟩
/-- A slice's element, if it has one cell. -/
theorem Sl.one {A : Option Addr} {L : List α} {C : Nat} (h : Sl enc 1 w C A L) (hl : L ≠ []) : ∃ b off, A = some ⟨b, off, none⟩ ∧ b < C ∧ ∀ (i : Nat) x u, L[i]? = some x → (enc x)[0]? = some u → w.cell? ⟨b, off + i, none⟩ = some u := by
  obtain ⟨b, off, e1, hb, hc⟩ := h hl
  exact ⟨b, off, e1, hb, fun i x u hx hu => by have := hc i x hx 0 u hu; simpa using this⟩
end
/-- Days. -/
def encD (x : Int) : List Value := [.int .i64 x]
theorem encD_len (x : Int) : (encD x).length = 1 := rfl
theorem encD_one (x : Int) : ∀ u ∈ encD x, u.oneCell' = true := by
  intro u hu
  rw [List.mem_singleton.1 hu]; rfl
abbrev OwnD (B : Nat) (v : Value) (l : List Int) (w : World) : Prop := Own encD 1 35 B v l w
theorem dayInfo : (Tryz.prog.info? 35).map (fun i => (i.zero, i.size, i.bytes)) = some (some (.int .i64 0), 1, 8) := by kernel_rfl
theorem newsD (x : Int) (w : World) : ∀ j u, (encD x)[j]? = some u → (w.alloc (.cells #[.int .i64 x] 35)).cell? ⟨w.heap.size, j, none⟩ = some u := by
  intro j u hu
  have h := Bk.new w 35 #[.int .i64 x]
  rw [h.cell]
  simpa [encD] using hu
abbrev SlD (w : World) (A : Option Addr) (L : List Int) : Prop := Sl encD 1 w w.heap.size A L
end Go.Proofs.YtgheloooibafcaaGreatDoor

namespace Go.Proofs.YtgheloooibafcaaGreatDoor
open Go.RowKit Go.Sort

theorem payB_eq (p : Int) (f : Fa) : payB p f = (((f.pe == p) || (f.pe == 0)) && (f.ki != 13) && (f.ki != 17)) := by
  unfold payB
  by_cases h1 : f.pe = p <;> by_cases h2 : f.pe = 0 <;> by_cases h3 : f.ki = 13 <;> by_cases h4 : f.ki = 17 <;> simp [h1, h2, h3, h4]
set_option maxRecDepth 10000 in
theorem dy_Since1 (f : Fa) (p : Int) (pb : Nat) (w : World) (hp : w.cell? ⟨pb, 0, none⟩ = some (.int .u32 p)) :
    Calls Tryz.prog 53 #[.agg (FA f), .pointer (some ⟨pb, 0, none⟩)] w fun e w' => e = .returned (.bool (payB p f)) ∧ Below w.heap.size w w' := by
  have HB := Lib.hid (bAlloc w (.cells (FA f) 39))
  have HP := Lib.hid (payB_eq p f)
  have l1 := cell_lt hp
  simp only at l1
  obtain ⟨x1, b1⟩ : ∃ x, (f.pe == p) = x := ⟨_, rfl⟩
  obtain ⟨x2, b2⟩ : ∃ x, (f.pe == 0) = x := ⟨_, rfl⟩
  obtain ⟨x3, b3⟩ : ∃ x, (f.ki != 13) = x := ⟨_, rfl⟩
  obtain ⟨x4, b4⟩ : ∃ x, (f.ki != 17) = x := ⟨_, rfl⟩
  rw [b1, b2, b3, b4] at HP
  unfold FA at HB ⊢
  cases x1 <;> cases x2 <;> cases x3 <;> cases x4
  all_goals
    go_enter Tryz.func53, Tryz.ntmps53
    go_wp2
    go_ret
    exact ⟨ret_b HP.out.symm, HB.out⟩

set_option maxHeartbeats 2000000 in
set_option maxRecDepth 10000 in
/-- slices.Min of days. -/
theorem dy_Min (l : List Int) (A : Option Addr) (cap : Nat) (w : World) (hl : l ≠ []) (hn : l.length ≤ 1000000) (hs : SlD w A l) :
    Calls Tryz.prog 85 #[.slice A l.length cap] w fun e w' => e = .returned (.int .i64 (minL l)) ∧ w = w' := by
  obtain ⟨b, off, rfl, hb, hc⟩ := Sl.one hs hl
  have HC : Hid (∀ (i : Nat) x, l[i]? = some x → w.cell? ⟨b, off + i, none⟩ = some (.int .i64 x)) := Lib.hid fun i x hx => hc i x _ hx rfl
  have h0 : 0 < l.length := List.length_pos_iff.2 hl
  have hn1 : ¬ ((l.length : Int) < 1) := by omega
  obtain ⟨x0, hx0⟩ : ∃ x, l[0]? = some x := ⟨_, List.getElem?_eq_getElem h0⟩
  have C0 := HC.out 0 x0 hx0
  simp only [Nat.add_zero] at C0
  have HM1 : Hid (minL (l.take 1) = x0) := Lib.hid (by
    cases l with
    | nil => exact absurd rfl hl
    | cons a l => simp at hx0; subst hx0; rfl)
  clear hc hs hx0 hl
  go_enter Tryz.func85, Tryz.ntmps85
  go_wp2
  go_loopw [3, 4] (fun mv iv wr => ∃ k : Nat, 1 ≤ k ∧ k ≤ l.length ∧ iv = .int .i64 k ∧ (∃ m : Int, mv = .int .i64 m ∧ Hid (minL (l.take k) = m)) ∧ w = wr) (fun _ iv _ => l.length - (intOf iv).toNat)
  case atStart => exact ⟨1, Nat.le_refl _, by omega, rfl, ⟨_, rfl, HM1⟩, rfl⟩
  case round =>
    obtain ⟨k, hk1, hk, rfl, ⟨m, rfl, HM⟩, rfl⟩ := hrel
    by_cases hlt : k < l.length
    · obtain ⟨x, hx⟩ : ∃ x, l[k]? = some x := ⟨_, List.getElem?_eq_getElem hlt⟩
      have CK := HC.out k x hx
      have HN : Hid (minL (l.take (k + 1)) = min m x) := Lib.hid (by
        rw [List.take_add_one, hx]
        show minL (l.take k ++ [x]) = min m x
        rw [minL_snoc, if_neg ?_, HM.out]
        intro h
        have h2 : (l.take k).length = 0 := by rw [h]; rfl
        rw [List.length_take] at h2
        omega)
      clear hx
      go_wp2
      exact ⟨⟨k + 1, by omega, by omega, by go_num, ⟨_, rfl, HN⟩, by first | rfl | trivial⟩, by simp [intOf]; omega⟩
    · obtain rfl : k = l.length := by omega
      rw [List.take_length] at HM
      go_wp2
      go_ret
      exact ⟨ret_i HM.out.symm, rfl⟩
theorem dy_least (l : List Int) (A : Option Addr) (cap : Nat) (w : World) (hn : l.length ≤ 1000000) (hs : SlD w A l) :
    Calls Tryz.prog 51 #[.slice A l.length cap] w fun e w' => e = .returned (.tuple #[.int .i64 (minL l), .bool (!(l == []))]) ∧ w = w' := by
  by_cases h0 : l = []
  · subst h0
    go_enter Tryz.func51, Tryz.ntmps51
    go_wp2
    go_ret2
    exact ⟨rfl, rfl⟩
  · have HF : Hid ((!(l == [])) = true) := Lib.hid (by simp [h0])
    have hpos : 0 < l.length := List.length_pos_iff.2 h0
    have bz : ((l.length : Int) == 0) = false := beq_eq_false_iff_ne.2 (by omega)
    have HM := Lib.hid (dy_Min l A cap w h0 hn hs)
    rw [HF.out]
    clear h0
    go_enter Tryz.func51, Tryz.ntmps51
    go_wp2_with fail
    refine HM.out.mono ?_
    rintro e w1 ⟨rfl, rfl⟩
    go_wp2
    go_ret2
    exact ⟨rfl, rfl⟩
abbrev SlK' (w : World) (A : Option Addr) (L : List Kn) : Prop := Sl encK 9 w w.heap.size A L
set_option maxHeartbeats 4000000 in
set_option maxRecDepth 100000 in
theorem dy_each (p : Int) (pb : Nat) (X : List Kn) (A : Option Addr) (cap : Nat) (w : World) (hn : X.length ≤ 100000) (hs : SlK' w A X) (fX : ∀ x ∈ X, Fit x.2) (hp : w.cell? ⟨pb, 0, none⟩ = some (.int .u32 p)) :
    Calls Tryz.prog 52 #[.slice A X.length cap, .func (.func 53) #[] #[.pointer (some ⟨pb, 0, none⟩)]] w fun e w' => (∃ v, e = .returned v ∧ OwnD w.heap.size v (eachL p X) w') ∧ Below w.heap.size w w' := by
  have HS := Lib.hid hs
  have HF := Lib.hid fX
  have HPC : Hid (∀ W, Below w.heap.size w W → W.cell? ⟨pb, 0, none⟩ = some (.int .u32 p)) := Lib.hid (fun W hb => bCell hb hp)
  clear hs hp fX
  go_enter Tryz.func52, Tryz.ntmps52
  go_wp2
  go_loopw [5, 10] (fun ov iv wr => ∃ k : Nat, k ≤ X.length ∧ iv = .int .i64 k ∧ Hid (OwnD w.heap.size ov (eachL p (X.take k)) wr) ∧ Hid (Below w.heap.size w wr)) (fun _ iv _ => X.length - (intOf iv).toNat)
  case atStart => exact ⟨0, Nat.zero_le _, rfl, Lib.hid (Own.nil _), Lib.hid (Below.refl _ _)⟩
  case round =>
    obtain ⟨k, hk, rfl, HO, HB⟩ := hrel
    by_cases hlt : k < X.length
    · obtain ⟨x, hx⟩ : ∃ x, X[k]? = some x := ⟨_, List.getElem?_eq_getElem hlt⟩
      obtain ⟨b, off, rfl, hbl, hat⟩ := HS.out (by intro h; simp [h] at hlt)
      have hat2 : ∀ j u, (encK x)[j]? = some u → wr.cell? ⟨b, off + k * 9 + j, none⟩ = some u := fun j u hu => bCell HB.out (hat k _ hx j u hu)
      have G0 := hat2 0 _ rfl
      have G1 := hat2 1 _ rfl
      have G2 := hat2 2 _ rfl
      have G3 := hat2 3 _ rfl
      have G4 := hat2 4 _ rfl
      have G5 := hat2 5 _ rfl
      have G6 := hat2 6 _ rfl
      have G7 := hat2 7 _ rfl
      have G8 := hat2 8 _ rfl
      simp only [Nat.add_zero] at G0
      have HT := Lib.hid (eachL_take (p := p) hx)
      have HFX := Lib.hid (HF.out x (List.mem_of_getElem? hx))
      have HLE : (eachL p (X.take k)).length + 1 ≤ 1000000000 := by have := eachL_len p (X.take k); rw [List.length_take] at this; omega
      have hlt2 : (k : Int) < (X.length : Int) := by omega
      obtain ⟨kb, hkb⟩ : ∃ z, wr.heap.size = z := ⟨_, rfl⟩
      obtain ⟨w4, hw4⟩ : ∃ z, wr.alloc (.cells #[.int .i64 x.1, .int .u32 x.2.id, .int .u32 x.2.pe, .int .i64 x.2.ki, .int .i64 x.2.fr, .int .i64 x.2.to, .string x.2.co, .int .i64 x.2.nu, .string x.2.tx] 41) = z := ⟨_, rfl⟩
      have HK4 : Hid (Bk kb 41 #[.int .i64 x.1, .int .u32 x.2.id, .int .u32 x.2.pe, .int .i64 x.2.ki, .int .i64 x.2.fr, .int .i64 x.2.to, .string x.2.co, .int .i64 x.2.nu, .string x.2.tx] w4) := Lib.hid (by rw [← hw4, ← hkb]; exact Bk.new _ _ _)
      have HO4 : Hid (OwnD w.heap.size u5 (eachL p (X.take k)) w4) := Lib.hid (by rw [← hw4]; exact HO.out.alloc _)
      have HB4 : Hid (Below w.heap.size w w4) := Lib.hid (by rw [← hw4]; exact bTrans HB.out (bAlloc wr _))
      have HE := Lib.hid (And.intro hkb hw4)
      have HCL : Hid (∀ W, Below w.heap.size w W → Calls Tryz.prog 53 #[.agg (FA x.2), .pointer (some ⟨pb, 0, none⟩)] W fun e w' => e = .returned (.bool (payB p x.2)) ∧ Below W.heap.size W w') := Lib.hid fun W hW => dy_Since1 x.2 p pb W (HPC.out W hW)
      obtain ⟨pp, hpp⟩ : ∃ z, payB p x.2 = z := ⟨_, rfl⟩
      rw [hpp] at HT HCL
      have HFI := Lib.hid (fun W => dy_First x.2 W HFX.out)
      unfold FA at HCL HFI
      clear hat hat2 hx hkb hw4 HO HB hpp
      go_upto_region 5 with fail
      rw [HE.out.1, HE.out.2]
      clear G0 G1 G2 G3 G4 G5 G6 G7 G8 HE
      have F1 : w4.cell? ⟨kb, 1, none⟩ = some (.int .u32 x.2.id) := HK4.out.cell 1
      have F2 : w4.cell? ⟨kb, 2, none⟩ = some (.int .u32 x.2.pe) := HK4.out.cell 2
      have F3 : w4.cell? ⟨kb, 3, none⟩ = some (.int .i64 x.2.ki) := HK4.out.cell 3
      have F4 : w4.cell? ⟨kb, 4, none⟩ = some (.int .i64 x.2.fr) := HK4.out.cell 4
      have F5 : w4.cell? ⟨kb, 5, none⟩ = some (.int .i64 x.2.to) := HK4.out.cell 5
      have F6 : w4.cell? ⟨kb, 6, none⟩ = some (.string x.2.co) := HK4.out.cell 6
      have F7 : w4.cell? ⟨kb, 7, none⟩ = some (.int .i64 x.2.nu) := HK4.out.cell 7
      have F8 : w4.cell? ⟨kb, 8, none⟩ = some (.string x.2.tx) := HK4.out.cell 8
      go_wp2_with fail
      refine (HCL.out _ HB4.out).mono ?_
      rintro e w5 ⟨rfl, hb5⟩
      have HB5 := Lib.hid (bTrans HB4.out hb5)
      have HO5 : Hid (OwnD w.heap.size u5 (eachL p (X.take k)) w5) := Lib.hid (own_bel HO4.out hb5)
      have HK5 : Hid (Bk kb 41 #[.int .i64 x.1, .int .u32 x.2.id, .int .u32 x.2.pe, .int .i64 x.2.ki, .int .i64 x.2.fr, .int .i64 x.2.to, .string x.2.co, .int .i64 x.2.nu, .string x.2.tx] w5) := Lib.hid ((hb5.block kb HK4.out.lt).trans HK4.out)
      clear F1 F2 F3 F4 F5 F6 F7 F8 hb5 HCL HK4 HO4
      cases pp with
      | false =>
        have HC3 : Hid (eachL p (X.take (k + 1)) = eachL p (X.take k)) := Lib.hid (by rw [HT.out, if_neg (by simp), List.append_nil])
        go_wp2
        exact ⟨⟨k + 1, by omega, by go_num, Lib.hid (by rw [HC3.out]; exact HO5.out), HB5⟩, by simp [intOf]; omega⟩
      | true =>
        have HC3 : Hid (eachL p (X.take (k + 1)) = eachL p (X.take k) ++ [firstF x.2]) := Lib.hid (by rw [HT.out, if_pos rfl])
        have F1 : w5.cell? ⟨kb, 1, none⟩ = some (.int .u32 x.2.id) := HK5.out.cell 1
        have F2 : w5.cell? ⟨kb, 2, none⟩ = some (.int .u32 x.2.pe) := HK5.out.cell 2
        have F3 : w5.cell? ⟨kb, 3, none⟩ = some (.int .i64 x.2.ki) := HK5.out.cell 3
        have F4 : w5.cell? ⟨kb, 4, none⟩ = some (.int .i64 x.2.fr) := HK5.out.cell 4
        have F5 : w5.cell? ⟨kb, 5, none⟩ = some (.int .i64 x.2.to) := HK5.out.cell 5
        have F6 : w5.cell? ⟨kb, 6, none⟩ = some (.string x.2.co) := HK5.out.cell 6
        have F7 : w5.cell? ⟨kb, 7, none⟩ = some (.int .i64 x.2.nu) := HK5.out.cell 7
        have F8 : w5.cell? ⟨kb, 8, none⟩ = some (.string x.2.tx) := HK5.out.cell 8
        go_wp2_with fail
        refine (HFI.out _).mono ?_
        rintro e w6 ⟨rfl, hb6⟩
        have HB6 := Lib.hid (bTrans HB5.out hb6)
        have HO6 : Hid (OwnD w.heap.size u5 (eachL p (X.take k)) w6) := Lib.hid (own_bel HO5.out hb6)
        have HZ : Hid (w.heap.size ≤ w6.heap.size) := Lib.hid HB6.out.size
        obtain ⟨fi, hfi⟩ : ∃ z, firstF x.2 = z := ⟨_, rfl⟩
        rw [hfi] at HC3
        rw [hfi]
        clear F1 F2 F3 F4 F5 F6 F7 F8 hb6 HFI hfi HK5
        go_wp2_with ((at_builtin; refine wpList_append_row encD_len encD_one rfl _ _ 123 rfl w.heap.size 35 _ 8 Tryz.underlying123 dayInfo rfl (by decide) _ (eachL p (X.take k)) fi rfl (HO6.out.alloc _) w6.heap.size 1 rfl (newsD fi w6) HLE (by decide) (Nat.le_trans HZ.out (Grows.of_alloc _ _).size) ?_))
        intro v7 w7 hown7 hgr7
        have HB7 : Hid (Below w.heap.size w w7) := Lib.hid (bel_own (bTrans HB6.out (bAlloc w6 _)) (Nat.le_trans HZ.out (Grows.of_alloc _ _).size) (HO6.out.alloc _) hgr7)
        have HO7 : Hid (OwnD w.heap.size v7 (eachL p (X.take (k + 1))) w7) := Lib.hid (by rw [HC3.out]; exact hown7)
        clear hown7 hgr7
        go_wp2
        exact ⟨⟨k + 1, by omega, by go_num, HO7, HB7⟩, by simp [intOf]; omega⟩
    · obtain rfl : k = X.length := by omega
      rw [List.take_length] at HO
      go_wp2
      go_ret
      exact ⟨⟨_, rfl, HO.out⟩, HB.out⟩
end Go.Proofs.YtgheloooibafcaaGreatDoor
