/- The stable sort in plain lists: merges, the sort as a fold of merges, and the laws by which blocks that are merged come to it. -/
import Derived.Deep.QuietTactic
namespace Go.Proofs.YtmngghglcgmkeaaGreatDoor
section
variable {α : Type} (lt : α → α → Bool)

/-- The stable merge: of the right one first only what is less. -/
def mg : List α → List α → List α
  | [], r => r
  | a :: l, [] => a :: l
  | a :: l, b :: r => if lt b a then b :: mg (a :: l) r else a :: mg l (b :: r)
termination_by l r => l.length + r.length

/-- The stable sort. -/
def ss : List α → List α
  | [] => []
  | x :: l => mg lt [x] (ss l)

/-- A strict weak order. -/
structure Swk : Prop where
  asym : ∀ x y, lt x y = true → lt y x = false
  tr : ∀ x y z, lt y x = false → lt z y = false → lt z x = false

/-- No later one is less than an earlier one. -/
def Srt (l : List α) : Prop := l.Pairwise fun x y => lt y x = false

variable {lt}
@[simp] theorem mg_nil (r : List α) : mg lt [] r = r := by unfold mg; rfl
@[simp] theorem nil_mg (l : List α) : mg lt l [] = l := by cases l <;> (unfold mg; rfl)
theorem mg_cons (a b : α) (l r : List α) : mg lt (a :: l) (b :: r) = if lt b a then b :: mg lt (a :: l) r else a :: mg lt l (b :: r) := by
  conv => lhs; unfold mg
theorem mg_perm : ∀ l r : List α, (mg lt l r).Perm (l ++ r)
  | [], r => by simp
  | a :: l, [] => by simp
  | a :: l, b :: r => by
    rw [mg_cons]
    split
    · exact ((mg_perm (a :: l) r).cons b).trans (List.perm_middle.symm)
    · exact (mg_perm l (b :: r)).cons a
termination_by l r => l.length + r.length
theorem ss_perm : ∀ l : List α, (ss lt l).Perm l
  | [] => List.Perm.refl _
  | x :: l => (mg_perm [x] (ss lt l)).trans ((ss_perm l).cons x)
theorem mg_length (l r : List α) : (mg lt l r).length = l.length + r.length := by rw [(mg_perm l r).length_eq, List.length_append]
theorem ss_length (l : List α) : (ss lt l).length = l.length := (ss_perm l).length_eq
theorem mg_mem {l r : List α} {x : α} : x ∈ mg lt l r ↔ x ∈ l ∨ x ∈ r := by rw [(mg_perm l r).mem_iff, List.mem_append]

theorem srt_mg (h : Swk lt) : ∀ {l r : List α}, Srt lt l → Srt lt r → Srt lt (mg lt l r)
  | [], r, _, hr => by simpa
  | a :: l, [], hl, _ => by simpa
  | a :: l, b :: r, hl, hr => by
    rw [mg_cons]
    have hl' := List.pairwise_cons.1 hl
    have hr' := List.pairwise_cons.1 hr
    split
    · rename_i hba
      refine List.pairwise_cons.2 ⟨fun x hx => ?_, srt_mg h hl hr'.2⟩
      rcases mg_mem.1 hx with hx | hx
      · rcases List.mem_cons.1 hx with rfl | hx
        · exact h.asym _ _ hba
        · exact h.tr b a x (h.asym _ _ hba) (hl'.1 x hx)
      · exact hr'.1 x hx
    · rename_i hba
      have hba : lt b a = false := by simpa using hba
      refine List.pairwise_cons.2 ⟨fun x hx => ?_, srt_mg h hl'.2 hr⟩
      rcases mg_mem.1 hx with hx | hx
      · exact hl'.1 x hx
      · rcases List.mem_cons.1 hx with rfl | hx
        · exact hba
        · exact h.tr a b x hba (hr'.1 x hx)
termination_by l r => l.length + r.length
theorem srt_ss (h : Swk lt) : ∀ l : List α, Srt lt (ss lt l)
  | [] => List.Pairwise.nil
  | _ :: l => srt_mg h (List.pairwise_singleton _ _) (srt_ss h l)

theorem mg_assoc (h : Swk lt) : ∀ A B C : List α, mg lt (mg lt A B) C = mg lt A (mg lt B C)
  | [], B, C => by simp
  | a :: A, [], C => by simp
  | a :: A, b :: B, [] => by simp
  | a :: A, b :: B, c :: C => by
    have h1 := mg_assoc h (a :: A) B (c :: C)
    have h2 := mg_assoc h A (b :: B) (c :: C)
    have h3 := mg_assoc h (a :: A) (b :: B) C
    rw [mg_cons a b A B, mg_cons b c B C] at *
    by_cases hba : lt b a = true
    · rw [if_pos hba] at *
      by_cases hcb : lt c b = true
      · have hca : lt c a = true := by
          cases hx : lt c a with
          | true => rfl
          | false =>
            have h4 : lt b a = false := h.tr _ _ _ hx (h.asym _ _ hcb)
            rw [h4] at hba; cases hba
        rw [if_pos hcb] at *
        rw [mg_cons, if_pos hcb, mg_cons a c, if_pos hca, h3]
      · rw [if_neg hcb] at *
        rw [mg_cons, if_neg hcb, mg_cons a b, if_pos hba, h1]
    · rw [if_neg hba] at *
      by_cases hcb : lt c b = true
      · rw [if_pos hcb] at *
        by_cases hca : lt c a = true
        · rw [mg_cons, if_pos hca, mg_cons a c, if_pos hca, h3]
        · rw [mg_cons, if_neg hca, mg_cons a c, if_neg hca, h2]
      · rw [if_neg hcb] at *
        have hca : ¬ lt c a = true := by
          have h4 := h.tr a b c (by simpa using hba) (by simpa using hcb)
          simp [h4]
        rw [mg_cons, if_neg hca, mg_cons a b, if_neg hba, h2]
termination_by A B C => A.length + B.length + C.length

theorem mg_ss (h : Swk lt) : ∀ l r : List α, mg lt (ss lt l) (ss lt r) = ss lt (l ++ r)
  | [], r => by simp [ss]
  | x :: l, r => by
    show mg lt (mg lt [x] (ss lt l)) (ss lt r) = mg lt [x] (ss lt (l ++ r))
    rw [mg_assoc h, mg_ss h l r]
theorem ss_one (x : α) : ss lt [x] = [x] := by simp [ss]
theorem ss_snoc (h : Swk lt) (l : List α) (x : α) : mg lt (ss lt l) [x] = ss lt (l ++ [x]) := by rw [← mg_ss h, ss_one]

/-- Two that are cut so that no front part holds what must come behind the other's back part. -/
theorem mg_split : ∀ (L1 L2 R1 R2 : List α), (∀ x ∈ L1, ∀ y ∈ R2, lt y x = false) → (∀ y ∈ R1, ∀ x ∈ L2, lt y x = true) → mg lt (L1 ++ L2) (R1 ++ R2) = mg lt L1 R1 ++ mg lt L2 R2
  | [], L2, [], R2, _, _ => by simp
  | [], [], r :: R1, R2, _, _ => by simp
  | [], x :: L2, r :: R1, R2, h1, h2 => by
    have h3 := mg_split [] (x :: L2) R1 R2 h1 (fun y hy => h2 y (List.mem_cons_of_mem _ hy))
    simp only [List.nil_append, mg_nil, List.cons_append] at h3 ⊢
    rw [mg_cons, if_pos (h2 r (by simp) x (by simp)), h3]
  | x :: L1, L2, [], [], h1, h2 => by simp
  | x :: L1, L2, [], r :: R2, h1, h2 => by
    have h3 := mg_split L1 L2 [] (r :: R2) (fun y hy => h1 y (List.mem_cons_of_mem _ hy)) h2
    simp only [List.nil_append, nil_mg, List.cons_append] at h3 ⊢
    rw [mg_cons, if_neg (by simp [h1 x (by simp) r (by simp)]), h3]
  | x :: L1, L2, r :: R1, R2, h1, h2 => by
    simp only [List.cons_append]
    rw [mg_cons, mg_cons]
    split
    · have h3 := mg_split (x :: L1) L2 R1 R2 h1 (fun y hy => h2 y (List.mem_cons_of_mem _ hy))
      simp only [List.cons_append] at h3
      rw [h3]; rfl
    · have h3 := mg_split L1 L2 (r :: R1) R2 (fun y hy => h1 y (List.mem_cons_of_mem _ hy)) h2
      simp only [List.cons_append] at h3
      rw [h3]; rfl
termination_by L1 _ R1 _ => L1.length + R1.length

/-- Blocks of s, each sorted. -/
def blks (lt : α → α → Bool) (s : Nat) (l : List α) : List α :=
  if _h : s = 0 ∨ l = [] then l else ss lt (l.take s) ++ blks lt s (l.drop s)
termination_by l.length
decreasing_by
  have : 0 < l.length := List.length_pos_iff.2 (fun h0 => _h (Or.inr h0))
  simp only [List.length_drop]; omega
theorem blks_nil (s : Nat) : blks lt s [] = [] := by unfold blks; simp
theorem blks_le {s : Nat} {l : List α} (hs : 0 < s) (h : l.length ≤ s) : blks lt s l = ss lt l := by
  unfold blks
  split
  · rename_i h0
    rcases h0 with h0 | rfl
    · omega
    · rfl
  · rw [List.take_of_length_le h, List.drop_of_length_le h, blks_nil, List.append_nil]
theorem blks_cons {s : Nat} {c l : List α} (hs : 0 < s) (h : c.length = s) : blks lt s (c ++ l) = ss lt c ++ blks lt s l := by
  conv => lhs; unfold blks
  have h1 : ¬ (s = 0 ∨ c ++ l = []) := by
    rintro (h0 | h0)
    · omega
    · have h2 := congrArg List.length h0
      rw [List.length_append, List.length_nil] at h2; omega
  rw [dif_neg h1, ← h, List.take_left, List.drop_left]
theorem blks_append {s : Nat} (hs : 0 < s) : ∀ (n : Nat) (c l : List α), c.length = n * s → blks lt s (c ++ l) = blks lt s c ++ blks lt s l
  | 0, c, l, h => by
    have : c = [] := List.length_eq_zero_iff.1 (by simpa using h)
    subst this; simp [blks_nil]
  | n + 1, c, l, h => by
    have hl : s ≤ c.length := by rw [h, Nat.add_mul]; omega
    have e : c = c.take s ++ c.drop s := (List.take_append_drop s c).symm
    have h1 : (c.take s).length = s := by rw [List.length_take]; omega
    have h2 : (c.drop s).length = n * s := by rw [List.length_drop, h, Nat.add_mul]; omega
    rw [e, List.append_assoc, blks_cons hs h1, blks_cons hs h1, blks_append hs n _ l h2, List.append_assoc]
theorem blks_length (s : Nat) (l : List α) : (blks lt s l).length = l.length := by
  unfold blks
  split
  · rfl
  · rename_i h0
    have : 0 < l.length := List.length_pos_iff.2 (fun h => h0 (Or.inr h))
    rw [List.length_append, ss_length, blks_length s (l.drop s), ← List.length_append, List.take_append_drop]
termination_by l.length
decreasing_by simp only [List.length_drop]; omega
end
end Go.Proofs.YtmngghglcgmkeaaGreatDoor
