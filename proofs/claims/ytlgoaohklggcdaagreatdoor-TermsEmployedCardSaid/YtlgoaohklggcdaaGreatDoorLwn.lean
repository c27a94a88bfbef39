import Derived.Test.YtlgoaohklggcdaaGreatDoorLwh
/- TermsEmployed, without the program: the days of terms.Employed, and the first of them. -/
namespace Go.Proofs.YtlgoaohklggcdaaGreatDoor
open Go.RowKit Go.Sort

/-- Does the fact at a place say that one is employed? -/
def emJ (X : List Kn) (j : Int) : Bool := decide (0 ≤ j) && ((valL X j).2.1 == 1)
def emD (X : List Kn) (d : Int) : Bool := emJ X (q_ X d)
theorem onX_em (L : Ls) (d : Int) : (onX L d).em = emD L.a d := by
  unfold onX emD emJ
  by_cases h : 0 ≤ q_ L.a d <;> simp [h]
def hasS (E : List Spn) (d : Int) : Prop := ∃ s ∈ E, s.1 ≤ d ∧ d < s.2
def sumS : List Spn → Int
  | [] => 0
  | s :: E => (s.2 - s.1) + sumS E
theorem sumS_app : ∀ A B : List Spn, sumS (A ++ B) = sumS A + sumS B
  | [], B => by simp [sumS]
  | a :: A, B => by rw [List.cons_append, sumS, sumS, sumS_app A B]; omega
def cntB (p : Int → Bool) (F : Int) : Nat → Int
  | 0 => 0
  | n + 1 => cntB p F n + (if p (F + n) then 1 else 0)
theorem cntB_add (p : Int → Bool) (F : Int) (m : Nat) : ∀ n : Nat, cntB p F (m + n) = cntB p F m + cntB p (F + m) n
  | 0 => by simp [cntB]
  | n + 1 => by
    rw [← Nat.add_assoc, cntB, cntB, cntB_add p F m n, show F + ((m + n : Nat) : Int) = F + (m : Int) + (n : Int) by omega]
    omega
theorem cntB_const (p : Int → Bool) (F : Int) (v : Bool) : ∀ n : Nat, (∀ d, F ≤ d → d < F + n → p d = v) → cntB p F n = if v = true then (n : Int) else 0
  | 0, _ => by simp [cntB]
  | n + 1, h => by
    rw [cntB, cntB_const p F v n (fun d h1 h2 => h d h1 (by omega)), h (F + n) (by omega) (by omega)]
    cases v <;> simp
theorem cntB_le (p : Int → Bool) (F : Int) : ∀ n : Nat, 0 ≤ cntB p F n ∧ cntB p F n ≤ n
  | 0 => by simp [cntB]
  | n + 1 => by
    have := cntB_le p F n
    rw [cntB]
    split <;> omega
inductive Tile (q : Int → Int) : Int → List (Int × Int × Int) → Int → Prop
  | nil (F : Int) : Tile q F [] F
  | cons {F b e j : Int} {P : List (Int × Int × Int)} : F < b → (∀ d, F ≤ d → d < b → q d = j) → Tile q b P e → Tile q F ((F, b, j) :: P) e
theorem Tile.le {q : Int → Int} {F e : Int} {P : List (Int × Int × Int)} (h : Tile q F P e) : F ≤ e := by
  induction h with
  | nil F => omega
  | cons h1 _ _ ih => omega
theorem Tile.snoc {q : Int → Int} {F e b j : Int} {P : List (Int × Int × Int)} (h : Tile q F P e) (h1 : e < b) (h2 : ∀ d, e ≤ d → d < b → q d = j) : Tile q F (P ++ [(e, b, j)]) b := by
  induction h with
  | nil F => exact .cons h1 h2 (.nil _)
  | cons g1 g2 _ ih => exact .cons g1 g2 (ih h1 h2)
/-- Where the fold over the cuts stands. -/
structure StrI (X : List Kn) (F c : Int) (s : SS) : Prop where
  tile : Tile (q_ X) F s.2.2 s.1
  le : s.1 ≤ c
  const : ∀ d, s.1 ≤ d → d ≤ c → q_ X d = s.2.1
theorem q_const {X : List Kn} {a b : Int} (hab : a ≤ b) (h : ∀ c, a < c → c ≤ b → ∀ x ∈ X, x.2.fr ≠ c ∧ x.2.to ≠ c) : q_ X a = q_ X b := plc_const hab h _
theorem StrI.upto {X : List Kn} {F c e : Int} {s : SS} (h : StrI X F c s) (hno : ∀ d, c < d → d < e → ∀ x ∈ X, x.2.fr ≠ d ∧ x.2.to ≠ d) : ∀ d, s.1 ≤ d → d < e → q_ X d = s.2.1 := fun d h1 h2 => by
  by_cases hd : d ≤ c
  · exact h.const d h1 hd
  · rw [← h.const c h.le (Int.le_refl _)]
    exact (q_const (by omega) fun k k1 k2 => hno k k1 (by omega)).symm
theorem StrI.step {X : List Kn} {F c e : Int} {s : SS} (h : StrI X F c s) (hce : c < e) (hno : ∀ d, c < d → d < e → ∀ x ∈ X, x.2.fr ≠ d ∧ x.2.to ≠ d) : StrI X F e (strS X s e) := by
  have hu := h.upto hno
  have hl := h.le
  unfold strS
  by_cases hq : plc X e X.length = s.2.1
  · rw [if_pos hq]
    refine ⟨h.tile, by omega, fun d h1 h2 => ?_⟩
    by_cases hde : d = e
    · subst hde; exact hq
    · exact hu d h1 (by omega)
  · rw [if_neg hq]
    refine ⟨h.tile.snoc (by omega) hu, Int.le_refl _, fun d h1 h2 => ?_⟩
    obtain rfl : d = e := by simp at h1; omega
    rfl
theorem StrI.all {X : List Kn} {F T : Int} : ∀ (C : List Int) {c : Int} {s : SS}, StrI X F c s → C.Pairwise (· < ·) → (∀ d ∈ C, c < d ∧ d < T) → (∀ d, c < d → d < T → (∃ x ∈ X, d = x.2.fr ∨ d = x.2.to) → d ∈ C) → c < T →
    Tile (q_ X) F ((C.foldl (strS X) s).2.2 ++ [((C.foldl (strS X) s).1, T, (C.foldl (strS X) s).2.1)]) T
  | [], c, s, h, _, _, hall, hT => by
    have hl := h.le
    refine h.tile.snoc (show s.1 < T by omega) (h.upto fun d h1 h2 x hx => ⟨fun e => ?_, fun e => ?_⟩)
    · exact absurd (hall d h1 h2 ⟨x, hx, .inl e.symm⟩) (List.not_mem_nil)
    · exact absurd (hall d h1 h2 ⟨x, hx, .inr e.symm⟩) (List.not_mem_nil)
  | e :: C, c, s, h, hp, hm, hall, hT => by
    rw [List.pairwise_cons] at hp
    have he := hm e (List.mem_cons_self)
    rw [List.foldl_cons]
    have hnot : ∀ d, c < d → d < e → (∃ x ∈ X, d = x.2.fr ∨ d = x.2.to) → False := fun d h1 h2 hx => by
      rcases List.mem_cons.1 (hall d h1 (by omega) hx) with h3 | h3
      · omega
      · have := hp.1 d h3
        omega
    refine StrI.all C (h.step he.1 fun d h1 h2 x hx => ⟨fun e2 => hnot d h1 h2 ⟨x, hx, .inl e2.symm⟩, fun e2 => hnot d h1 h2 ⟨x, hx, .inr e2.symm⟩⟩) hp.2 (fun d hd => ⟨hp.1 d hd, (hm d (List.mem_cons_of_mem _ hd)).2⟩) (fun d h1 h2 hx => ?_) he.2
    rcases List.mem_cons.1 (hall d (by omega) h2 hx) with h3 | h3
    · omega
    · exact h3
theorem strL_tile {X : List Kn} {F T : Int} (h : F < T) : Tile (q_ X) F (strL X F T) T := by
  unfold strL strK
  rw [if_neg (by omega)]
  refine StrI.all (cutsL X F T) (c := F) ⟨.nil F, Int.le_refl _, fun d h1 h2 => ?_⟩ (cutsL_rise X F T) (fun d hd => (mem_cutsL.1 hd).1) (fun d h1 h2 hx => mem_cutsL.2 ⟨⟨h1, h2⟩, hx⟩) h
  obtain rfl : d = F := by simp at h1; omega
  rfl
def onesJ (X : List Kn) (P : List (Int × Int × Int)) : List Spn := P.filterMap fun p => if emJ X p.2.2 = true then some (p.1, p.2.1) else none
theorem ones_over (X : List Kn) (F T : Int) : onesP (overX X F T) = onesJ X (strL X F T) := by
  unfold onesP overX ovrS onesJ
  rw [List.filterMap_filterMap]
  congr 1
  funext p
  unfold emJ
  by_cases h : 0 ≤ p.2.2
  · simp [h]
  · simp [h]
/-- Spans that rise, and neither meet nor touch. -/
structure SepS (E : List Spn) (b : Int) : Prop where
  pos : ∀ s ∈ E, s.1 < s.2
  sep : E.Pairwise fun x y => x.2 < y.1
  le : ∀ s ∈ E, s.2 ≤ b
theorem SepS.nil (b : Int) : SepS [] b := ⟨fun _ h => absurd h (List.not_mem_nil), .nil, fun _ h => absurd h (List.not_mem_nil)⟩
theorem SepS.mono {E : List Spn} {b c : Int} (h : SepS E b) (hbc : b ≤ c) : SepS E c := ⟨h.pos, h.sep, fun s hs => Int.le_trans (h.le s hs) hbc⟩
theorem SepS.join {O : List Spn} {F b : Int} (h : SepS O F) (hF : F < b) : SepS (joinS O F b) b ∧ (∀ d, hasS (joinS O F b) d ↔ hasS O d ∨ (F ≤ d ∧ d < b)) ∧ sumS (joinS O F b) = sumS O + (b - F) := by
  have hnl : ¬ b ≤ F := by omega
  have happ : ∀ Q : List Spn, SepS Q F → (∀ s ∈ Q, s.2 < F) → SepS (Q ++ [(F, b)]) b ∧ (∀ d, hasS (Q ++ [(F, b)]) d ↔ hasS Q d ∨ (F ≤ d ∧ d < b)) ∧ sumS (Q ++ [(F, b)]) = sumS Q + (b - F) := fun Q hQ hlt => by
    refine ⟨⟨fun s hs => ?_, ?_, fun s hs => ?_⟩, fun d => ?_, ?_⟩
    · rcases List.mem_append.1 hs with h1 | h1
      · exact hQ.pos s h1
      · rw [List.mem_singleton] at h1; subst h1; exact hF
    · rw [List.pairwise_append]
      refine ⟨hQ.sep, List.pairwise_singleton _ _, fun x hx y hy => ?_⟩
      rw [List.mem_singleton] at hy
      subst hy
      exact hlt x hx
    · rcases List.mem_append.1 hs with h1 | h1
      · have := hQ.le s h1; omega
      · rw [List.mem_singleton] at h1; subst h1; exact Int.le_refl _
    · unfold hasS
      constructor
      · rintro ⟨s, hs, h1⟩
        rcases List.mem_append.1 hs with h2 | h2
        · exact .inl ⟨s, h2, h1⟩
        · rw [List.mem_singleton] at h2; subst h2; exact .inr h1
      · rintro (⟨s, hs, h1⟩ | h1)
        · exact ⟨s, List.mem_append_left _ hs, h1⟩
        · exact ⟨(F, b), List.mem_append_right _ (List.mem_singleton.2 rfl), h1⟩
    · rw [sumS_app]; simp [sumS]
  rcases List.eq_nil_or_concat O with rfl | ⟨Q, ⟨a, c⟩, rfl⟩
  · rw [joinS_nil hnl]
    exact happ [] h (fun _ hs => absurd hs (List.not_mem_nil))
  · rw [List.concat_eq_append] at h ⊢
    have hc := h.le (a, c) (List.mem_append_right _ (List.mem_singleton.2 rfl))
    have hp := h.pos (a, c) (List.mem_append_right _ (List.mem_singleton.2 rfl))
    have hs := List.pairwise_append.1 h.sep
    by_cases hFc : F ≤ c
    · obtain rfl : c = F := by simp at hc; omega
      rw [joinS_in hnl (Int.le_refl _), show max c b = b by omega]
      refine ⟨⟨fun s h1 => ?_, ?_, fun s h1 => ?_⟩, fun d => ?_, ?_⟩
      · rcases List.mem_append.1 h1 with h2 | h2
        · exact h.pos s (List.mem_append_left _ h2)
        · rw [List.mem_singleton] at h2; subst h2; simp at hp ⊢; omega
      · rw [List.pairwise_append]
        refine ⟨hs.1, List.pairwise_singleton _ _, fun x hx y hy => ?_⟩
        rw [List.mem_singleton] at hy
        subst hy
        exact hs.2.2 x hx (a, c) (List.mem_singleton.2 rfl)
      · rcases List.mem_append.1 h1 with h2 | h2
        · have := h.le s (List.mem_append_left _ h2); omega
        · rw [List.mem_singleton] at h2; subst h2; exact Int.le_refl _
      · unfold hasS
        constructor
        · rintro ⟨s, h1, h2⟩
          rcases List.mem_append.1 h1 with h3 | h3
          · exact .inl ⟨s, List.mem_append_left _ h3, h2⟩
          · rw [List.mem_singleton] at h3
            subst h3
            simp at h2 hp
            by_cases hdc : d < c
            · exact .inl ⟨(a, c), List.mem_append_right _ (List.mem_singleton.2 rfl), h2.1, hdc⟩
            · exact .inr ⟨by omega, h2.2⟩
        · rintro (⟨s, h1, h2⟩ | h2)
          · rcases List.mem_append.1 h1 with h3 | h3
            · exact ⟨s, List.mem_append_left _ h3, h2⟩
            · rw [List.mem_singleton] at h3
              subst h3
              exact ⟨(a, b), List.mem_append_right _ (List.mem_singleton.2 rfl), h2.1, by simp at h2 ⊢; omega⟩
          · exact ⟨(a, b), List.mem_append_right _ (List.mem_singleton.2 rfl), by simp at hp ⊢; omega, h2.2⟩
      · rw [sumS_app, sumS_app]; simp [sumS]; omega
    · have hj : joinS (Q ++ [(a, c)]) F b = (Q ++ [(a, c)]) ++ [(F, b)] := by
        unfold joinS
        rw [if_neg hnl, List.reverse_append, List.reverse_singleton, List.singleton_append]
        simp [hFc]
      rw [hj]
      refine happ _ h fun s h1 => ?_
      rcases List.mem_append.1 h1 with h2 | h2
      · have := hs.2.2 s h2 (a, c) (List.mem_singleton.2 rfl)
        simp at this hp
        omega
      · rw [List.mem_singleton] at h2; subst h2; simp; omega
theorem Tile.fold {X : List Kn} {F e : Int} {P : List (Int × Int × Int)} (h : Tile (q_ X) F P e) : ∀ O : List Spn, SepS O F →
    SepS ((onesJ X P).foldl (fun O s => joinS O s.1 s.2) O) e ∧ (∀ d, hasS ((onesJ X P).foldl (fun O s => joinS O s.1 s.2) O) d ↔ hasS O d ∨ (F ≤ d ∧ d < e ∧ emD X d = true)) ∧ sumS ((onesJ X P).foldl (fun O s => joinS O s.1 s.2) O) = sumS O + cntB (emD X) F (e - F).toNat := by
  induction h with
  | nil F =>
    intro O hO
    refine ⟨hO, fun d => ⟨.inl, fun h => ?_⟩, by simp [onesJ, cntB]⟩
    rcases h with h | h
    · exact h
    · omega
  | @cons F b e j P h1 h2 h3 ih =>
    intro O hO
    have hle := h3.le
    have hc : cntB (emD X) F (e - F).toNat = (if emJ X j = true then b - F else 0) + cntB (emD X) b (e - b).toNat := by
      rw [show (e - F).toNat = (b - F).toNat + (e - b).toNat by omega, cntB_add, cntB_const (emD X) F (emJ X j) (b - F).toNat (fun d g1 g2 => by unfold emD; rw [h2 d g1 (by omega)]), show F + ((b - F).toNat : Int) = b by omega, show ((b - F).toNat : Int) = b - F by omega]
    have hd1 : ∀ d, F ≤ d → d < b → emD X d = emJ X j := fun d g1 g2 => by unfold emD; rw [h2 d g1 g2]
    by_cases hj : emJ X j = true
    · have e1 : onesJ X ((F, b, j) :: P) = (F, b) :: onesJ X P := by unfold onesJ; rw [List.filterMap_cons]; simp [hj]
      rw [e1, List.foldl_cons]
      obtain ⟨k1, k2, k3⟩ := hO.join h1
      obtain ⟨g1, g2, g3⟩ := ih _ k1
      refine ⟨g1, fun d => ?_, by rw [g3, k3, hc, if_pos hj]; omega⟩
      rw [g2, k2]
      constructor
      · rintro ((h | h) | h)
        · exact .inl h
        · exact .inr ⟨h.1, by omega, by rw [hd1 d h.1 h.2, hj]⟩
        · exact .inr ⟨by omega, h.2⟩
      · rintro (h | h)
        · exact .inl (.inl h)
        · by_cases hdb : d < b
          · exact .inl (.inr ⟨h.1, hdb⟩)
          · exact .inr ⟨by omega, h.2⟩
    · have e1 : onesJ X ((F, b, j) :: P) = onesJ X P := by unfold onesJ; rw [List.filterMap_cons]; simp [hj]
      rw [e1]
      obtain ⟨g1, g2, g3⟩ := ih O (hO.mono (by omega))
      refine ⟨g1, fun d => ?_, by rw [g3, hc, if_neg hj]; omega⟩
      rw [g2]
      constructor
      · rintro (h | h)
        · exact .inl h
        · exact .inr ⟨by omega, h.2⟩
      · rintro (h | h)
        · exact .inl h
        · by_cases hdb : d < b
          · rw [hd1 d h.1 hdb] at h
            exact absurd h.2.2 hj
          · exact .inr ⟨by omega, h.2⟩
/-- The spans of terms.Employed. -/
theorem empl_law (X : List Kn) {F T : Int} (h1 : -25567 ≤ F) (h2 : F ≤ T) (h3 : T ≤ 84006) : SepS (emplX X F T) T ∧ (∀ d, hasS (emplX X F T) d ↔ F ≤ d ∧ d < T ∧ emD X d = true) ∧ sumS (emplX X F T) = cntB (emD X) F (T - F).toNat ∧ (∀ s ∈ emplX X F T, F ≤ s.1) := by
  have hmain : SepS (emplX X F T) T ∧ (∀ d, hasS (emplX X F T) d ↔ F ≤ d ∧ d < T ∧ emD X d = true) ∧ sumS (emplX X F T) = cntB (emD X) F (T - F).toNat := by
    unfold emplX
    by_cases hFT : F < T
    · have hc : crossS F T (-25567) 84006 = (F, T) := by
        unfold crossS
        rw [show max F (-25567) = F by omega, show min T 84006 = T by omega, if_neg (by omega)]
      rw [hc]
      have h := (strL_tile (X := X) hFT).fold [] (SepS.nil F)
      rw [← ones_over] at h
      refine ⟨h.1, fun d => (h.2.1 d).trans ⟨fun g => ?_, .inr⟩, ?_⟩
      · rcases g with ⟨s, hs, _⟩ | g
        · exact absurd hs (List.not_mem_nil)
        · exact g
      · have := h.2.2
        rw [show sumS ([] : List Spn) = 0 from rfl, Int.zero_add] at this
        exact this
    · obtain rfl : F = T := by omega
      have hc : crossS F F (-25567) 84006 = (0, 0) := by
        unfold crossS
        rw [if_pos (by omega)]
      rw [hc]
      have e0 : ofS (onesP (overX X (0, (0 : Int)).1 ((0 : Int), (0 : Int)).2)) = [] := by
        unfold overX strL
        rw [if_pos (by simp)]
        rfl
      rw [e0]
      refine ⟨SepS.nil _, fun d => ⟨fun ⟨s, hs, _⟩ => absurd hs (List.not_mem_nil), fun h => by omega⟩, ?_⟩
      simp [sumS, cntB]
  refine ⟨hmain.1, hmain.2.1, hmain.2.2, fun s hs => ?_⟩
  exact ((hmain.2.1 s.1).1 ⟨s, hs, Int.le_refl _, hmain.1.pos s hs⟩).1
theorem plc_in {X : List Kn} {d : Int} : ∀ {k : Nat} {j : Nat} {x : Kn}, plc X d k = (j : Int) → X[j]? = some x → inB x.2 d = true
  | 0, j, x, h, _ => by rw [plc] at h; omega
  | k + 1, j, x, h, hx => by
    cases hk : X[k]? with
    | none => rw [plc, hk] at h; exact plc_in h hx
    | some y =>
      rw [plc_succ hk] at h
      split at h
      · rename_i hb
        obtain rfl : k = j := by omega
        rw [hk] at hx
        injection hx with hx
        subst hx
        simp at hb
        exact hb.1
      · exact plc_in h hx
/-- What a search by the first days tells. -/
theorem has_at {E : List Spn} {b d : Int} {i : Nat} (h : SepS E b) (hi : i ≤ E.length) (hlo : ∀ k s, k < i → E[k]? = some s → s.1 < d) (hhi : ∀ k s, i ≤ k → E[k]? = some s → d ≤ s.1) :
    hasS E d ↔ (∃ s, E[i]? = some s ∧ s.1 = d) ∨ (0 < i ∧ ∃ s, E[i - 1]? = some s ∧ d < s.2) := by
  constructor
  · rintro ⟨s, hs, h1, h2⟩
    obtain ⟨k, hk⟩ := List.mem_iff_getElem?.1 hs
    by_cases hki : k < i
    · right
      refine ⟨by omega, ?_⟩
      by_cases hk1 : k = i - 1
      · exact ⟨s, by rw [← hk1]; exact hk, h2⟩
      · exfalso
        have hlt : i - 1 < E.length := by omega
        have hp := List.pairwise_iff_getElem.1 h.sep k (i - 1) (by omega) hlt (by omega)
        have hb := hlo (i - 1) _ (by omega) (List.getElem?_eq_getElem hlt)
        rw [(List.getElem?_eq_some_iff.1 hk).2] at hp
        omega
    · left
      have hd := hhi k s (by omega) hk
      by_cases hk1 : k = i
      · exact ⟨s, by rw [← hk1]; exact hk, by omega⟩
      · exfalso
        have hkl := (List.getElem?_eq_some_iff.1 hk).1
        have hp := List.pairwise_iff_getElem.1 h.sep i k (by omega) hkl (by omega)
        have hb := hhi i _ (Nat.le_refl _) (List.getElem?_eq_getElem (by omega))
        have hpo := h.pos _ (List.getElem_mem (l := E) (n := i) (by omega))
        rw [(List.getElem?_eq_some_iff.1 hk).2] at hp
        omega
  · rintro (⟨s, hs, h1⟩ | ⟨h0, s, hs, h1⟩)
    · have hm := List.mem_of_getElem? hs
      exact ⟨s, hm, by omega, by have := h.pos s hm; omega⟩
    · have hm := List.mem_of_getElem? hs
      exact ⟨s, hm, by have := hlo (i - 1) s (by omega) hs; omega, h1⟩
def hasb (E : List Spn) (d : Int) : Bool := E.any fun s => decide (s.1 ≤ d) && decide (d < s.2)
theorem hasb_iff (E : List Spn) (d : Int) : hasb E d = true ↔ hasS E d := by
  unfold hasb hasS
  rw [List.any_eq_true]
  constructor
  · rintro ⟨s, hs, h⟩
    simp at h
    exact ⟨s, hs, h⟩
  · rintro ⟨s, hs, h⟩
    exact ⟨s, hs, by simp [h]⟩
theorem hasb_eq {X : List Kn} {E : List Spn} {F U : Int} (h : ∀ d, hasS E d ↔ F ≤ d ∧ d < U ∧ emD X d = true) (d : Int) : hasb E d = (decide (F ≤ d) && decide (d < U) && emD X d) := by
  rw [Bool.eq_iff_iff, hasb_iff, h]
  simp [and_assoc]
theorem sep_sum {b : Int} : ∀ {E : List Spn} {F : Int}, SepS E b → (∀ s ∈ E, F ≤ s.1) → F ≤ b → (E.length : Int) ≤ b - F ∧ 0 ≤ sumS E ∧ sumS E ≤ b - F
  | [], F, _, _, h => by simp [sumS]; omega
  | s :: E, F, h, hF, hFb => by
    have h1 := h.pos s (List.mem_cons_self)
    have h2 := hF s (List.mem_cons_self)
    have h3 := h.le s (List.mem_cons_self)
    have hp := List.pairwise_cons.1 h.sep
    have ih := sep_sum (E := E) (F := s.2) (b := b) ⟨fun x hx => h.pos x (List.mem_cons_of_mem _ hx), hp.2, fun x hx => h.le x (List.mem_cons_of_mem _ hx)⟩ (fun x hx => by have := hp.1 x hx; omega) h3
    rw [sumS, List.length_cons]
    omega
theorem SepS.take {E : List Spn} {b : Int} (h : SepS E b) (k : Nat) : SepS (E.take k) b := ⟨fun s hs => h.pos s (List.mem_of_mem_take hs), h.sep.sublist (List.take_sublist _ _), fun s hs => h.le s (List.mem_of_mem_take hs)⟩
theorem sumS_take {E : List Spn} {k : Nat} {s : Spn} (h : E[k]? = some s) : sumS (E.take (k + 1)) = sumS (E.take k) + (s.2 - s.1) := by
  rw [List.take_add_one, h, Option.toList_some, sumS_app]
  simp [sumS]
theorem SepS.rise {E : List Spn} {b : Int} (h : SepS E b) : E.Pairwise fun x y => x.1 < y.1 := by
  have h1 := h.sep
  have h2 := h.pos
  clear h
  induction E with
  | nil => exact .nil
  | cons s E ih =>
    rw [List.pairwise_cons] at h1 ⊢
    refine ⟨fun y hy => ?_, ih h1.2 (fun x hx => h2 x (List.mem_cons_of_mem _ hx))⟩
    have := h1.1 y hy
    have := h2 s (List.mem_cons_self)
    omega
/-- The least of those that pass. -/
def minP (p : Int → Bool) (s : Int × Bool) (d : Int) : Int × Bool := if (p d && (!s.2 || decide (d < s.1))) = true then (d, true) else s
theorem minP_all (p : Int → Bool) : ∀ (L : List Int) (s : Int × Bool), (L.foldl (minP p) s = s ∧ ∀ d ∈ L, p d = true → s.2 = true ∧ s.1 ≤ d) ∨ (∃ m ∈ L, p m = true ∧ L.foldl (minP p) s = (m, true) ∧ (∀ d ∈ L, p d = true → m ≤ d))
  | [], s => .inl ⟨rfl, fun _ h => absurd h (List.not_mem_nil)⟩
  | a :: L, s => by
    rw [List.foldl_cons]
    by_cases ha : (p a && (!s.2 || decide (a < s.1))) = true
    · have e1 : minP p s a = (a, true) := by unfold minP; rw [if_pos ha]
      rw [e1]
      have hpa : p a = true := by simp at ha; exact ha.1
      right
      rcases minP_all p L (a, true) with ⟨h1, h2⟩ | ⟨m, hm, h1, h2, h3⟩
      · exact ⟨a, List.mem_cons_self, hpa, h1, fun d hd hp => by
          rcases List.mem_cons.1 hd with rfl | hd
          · exact Int.le_refl _
          · exact (h2 d hd hp).2⟩
      · by_cases ham : m ≤ a
        · exact ⟨m, List.mem_cons_of_mem _ hm, h1, h2, fun d hd hp => by
            rcases List.mem_cons.1 hd with rfl | hd
            · exact ham
            · exact h3 d hd hp⟩
        · exfalso
          exact ham (minP_le p L (a, true) rfl h2)
    · have e1 : minP p s a = s := by unfold minP; rw [if_neg ha]
      rw [e1]
      rcases minP_all p L s with ⟨h1, h2⟩ | ⟨m, hm, h1, h2, h3⟩
      · left
        refine ⟨h1, fun d hd hp => ?_⟩
        rcases List.mem_cons.1 hd with rfl | hd
        · simp [hp] at ha
          cases h : s.2
          · rw [h] at ha; simp at ha
          · rw [h] at ha; simp at ha; exact ⟨rfl, ha⟩
        · exact h2 d hd hp
      · right
        refine ⟨m, List.mem_cons_of_mem _ hm, h1, h2, fun d hd hp => ?_⟩
        rcases List.mem_cons.1 hd with rfl | hd
        · simp [hp] at ha
          have hs : s.2 = true := by cases h : s.2 <;> rw [h] at ha <;> simp at ha ⊢
          have := minP_le p L s hs h2
          have hd2 : s.1 ≤ d := ha.2
          omega
        · exact h3 d hd hp
where
  minP_le (p : Int → Bool) : ∀ (L : List Int) (s : Int × Bool) (_ : s.2 = true) {m : Int}, L.foldl (minP p) s = (m, true) → m ≤ s.1
    | [], s, _, m, h => by
      have : s.1 = m := by rw [show s = (m, true) from h]
      omega
    | a :: L, s, hs, m, h => by
      rw [List.foldl_cons] at h
      unfold minP at h
      split at h
      · rename_i h2
        have := minP_le p L (a, true) rfl h
        simp [hs] at h2
        have := h2.2
        simp at *
        omega
      · exact minP_le p L s hs h
/-- The ends of the facts' spans. -/
def endsX (X : List Kn) : List Int := X.flatMap fun x => [x.2.fr, x.2.to]
def calP (X : List Kn) (d : Int) : Bool := decide (-25567 ≤ d ∧ d ≤ 84005) && emD X d
theorem first_law (X : List Kn) (hfr : ∀ x ∈ X, -25567 ≤ x.2.fr) : firstS (emplX X (-25567) 84006) = (endsX X).foldl (minP (calP X)) (0, false) := by
  obtain ⟨h1, h2, _, _⟩ := empl_law X (F := -25567) (T := 84006) (by omega) (by omega) (by omega)
  have hcal : ∀ d, calP X d = true ↔ hasS (emplX X (-25567) 84006) d := fun d => by
    rw [h2 d]
    unfold calP
    simp
    constructor
    · rintro ⟨⟨a, b⟩, c⟩; exact ⟨a, by omega, c⟩
    · rintro ⟨a, b, c⟩; exact ⟨⟨a, by omega⟩, c⟩
  obtain ⟨E, hE⟩ : ∃ E, emplX X (-25567) 84006 = E := ⟨_, rfl⟩
  rw [hE] at h1 h2 hcal ⊢
  cases E with
  | nil =>
    rcases minP_all (calP X) (endsX X) (0, false) with ⟨g1, _⟩ | ⟨m, _, g2, _⟩
    · rw [g1]; rfl
    · obtain ⟨s, hs, _⟩ := (hcal m).1 g2
      exact absurd hs (List.not_mem_nil)
  | cons s E =>
    obtain ⟨d0, hd0⟩ : ∃ d0, s.1 = d0 := ⟨_, rfl⟩
    have hpos := h1.pos s (List.mem_cons_self)
    have hmin : ∀ d, hasS (s :: E) d → d0 ≤ d := by
      rintro d ⟨t, ht, k1, k2⟩
      rcases List.mem_cons.1 ht with rfl | ht
      · omega
      · have := (List.pairwise_cons.1 h1.sep).1 t ht
        omega
    have hd : hasS (s :: E) d0 := ⟨s, List.mem_cons_self, by omega, by omega⟩
    have hd' := (h2 d0).1 hd
    have hin : d0 ∈ endsX X := by
      unfold endsX
      rw [List.mem_flatMap]
      by_cases hlo : d0 = -25567
      · have hem := hd'.2.2
        unfold emD emJ at hem
        simp at hem
        rcases plc_bd X d0 X.length with hq | ⟨j, hq, hj, _⟩
        · exfalso
          have := hem.1
          unfold q_ at this
          omega
        · obtain ⟨x, hx⟩ : ∃ x, X[j]? = some x := ⟨_, List.getElem?_eq_getElem hj⟩
          have hib := plc_in hq hx
          refine ⟨x, List.mem_of_getElem? hx, ?_⟩
          have hf := hfr x (List.mem_of_getElem? hx)
          unfold inB at hib
          simp at hib
          have : d0 = x.2.fr := by omega
          simp [this]
      · have hne : q_ X (d0 - 1) ≠ q_ X d0 := fun e => by
          have hem := hd'.2.2
          unfold emD at hem
          rw [← e] at hem
          have := hmin (d0 - 1) ((h2 (d0 - 1)).2 ⟨by omega, by omega, hem⟩)
          omega
        refine Decidable.byContradiction fun hno => hne (q_const (by omega) fun c k1 k2 x hx => ?_)
        obtain rfl : c = d0 := by omega
        refine ⟨fun e => hno ⟨x, hx, ?_⟩, fun e => hno ⟨x, hx, ?_⟩⟩ <;> simp [e]
    have hp : calP X d0 = true := (hcal d0).2 hd
    show (s.1, true) = _
    rw [hd0]
    rcases minP_all (calP X) (endsX X) (0, false) with ⟨_, g2⟩ | ⟨m, gm, g2, g3, g4⟩
    · exact absurd (g2 d0 hin hp).1 (by simp)
    · rw [g3]
      have k1 := g4 d0 hin hp
      have k2 := hmin m ((hcal m).1 g2)
      rw [show m = d0 by omega]
theorem told_fr {l : List Fa} : ∀ f ∈ tellL [] l, -25567 ≤ f.fr := fun f hf => by
  have h1 := tell_chk l [] (fun _ h => by cases h) f hf
  unfold chkF at h1
  have h2 : daysE f = 0 := Decidable.byContradiction fun h => by
    split at h1
    · simp at h1
    · split at h1
      · simp at h1
      · first | exact h h1 | (rw [if_pos h] at h1; exact h h1)
  unfold daysE at h2
  split at h2
  · simp at h2
  · omega
theorem chosen_of {p : Fa → Bool} {L : List Fa} {k : Nat} {x : Kn} (h : x ∈ chosen p L k) : x.2 ∈ L := by
  obtain ⟨i, _, _, h2, _⟩ := mem_chosen h
  exact List.mem_of_getElem? h2
end Go.Proofs.YtlgoaohklggcdaaGreatDoor
