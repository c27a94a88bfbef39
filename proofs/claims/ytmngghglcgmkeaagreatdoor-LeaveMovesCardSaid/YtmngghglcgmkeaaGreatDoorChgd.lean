/- Merged from: St20 St21 Pl1 St22. -/
import Derived.Test.YtmngghglcgmkeaaGreatDoorKeys
import Derived.Maps.Keyed
import Derived.Laws.AppendOwnNone
import Derived.Deep.RegionHeld3
/- The known facts of a list that are not in another one. -/
namespace Go.Proofs.YtmngghglcgmkeaaGreatDoor
open Go.RowKit Go.Sort Go.WideMaps Go.Maps Go.WideElems

/-- Known facts in a slice. -/
abbrev SlK (w : World) (A : Option Addr) (L : List Kn) : Prop := Sl encK 9 w w.heap.size A L
abbrev OMk (w : World) (b n : Nat) (D : DataW Unit) : Prop := w.ownsMap Tryz.prog 67 (plainElem (H := Unit) Tryz.prog 4) b n D
end Go.Proofs.YtmngghglcgmkeaaGreatDoor

/- slices.SortStableFunc at known facts: short slices stay; the contract of the others under one name; a row of the call's own, sorted; one row appended to another. -/
namespace Go.Proofs.YtmngghglcgmkeaaGreatDoor
open Go.RowKit Go.Sort

abbrev RowK (g cap : Nat) (l : List Kn) (w : World) : Prop := Rw encK 9 67 g cap l w
theorem ss_short {α : Type} {lt : α → α → Bool} {l : List α} (h : l.length ≤ 1) : ss lt l = l := by
  match l, h with
  | [], _ => rfl
  | [x], _ => exact ss_one x
/-- A row of one's own behind another one. -/
theorem wpList_append_rows {α : Type} {enc : α → List Value} {k : Nat} {P : Program} {ops : Array Oper} {rest : List Oper} {o : Oper} {a : Act} {w : World} {Q : Exit → Act → World → Prop}
    (hk : ∀ x, (enc x).length = k) (h1 : ∀ x, ∀ u ∈ enc x, u.oneCell' = true) (hgd : o.guard = none) (s x : Operand) (t : TypeId)
    (ho : o.op = .call { callee := .builtin .append, args := #[s, x], argTypes := #[t, t] })
    (base base2 : Nat) (e : TypeId) (z : Value) (bytes : Nat) (ht : P.underlying t = some (.slice e)) (hi : (P.info? e).map (fun i => (i.zero, i.size, i.bytes)) = some (some z, k, bytes)) (hzs : z.cells.size = k) (hsz : 0 < k)
    (v v2 : Value) (l m : List α) (hs : a.eval s = v) (hown : Own enc k e base v l w) (hx : a.eval x = v2) (hown2 : Own enc k e base2 v2 m w)
    (hn : l.length + m.length ≤ 1000000000) (hb : bytes ≤ 1000) (hbase : base ≤ w.heap.size)
    (h : ∀ v' w', Own enc k e base v' (l ++ m) w' → w.grownBy w' v.ownBlock → wpList P ops Q rest (a.put o.dst v') w') : wpList P ops Q (o :: rest) a w := by
  obtain ⟨i, hi1, hz, hsize, hby⟩ := info_parts hi
  rcases hown2.2 with ⟨rfl, h0⟩ | ⟨g, cap, cur, rfl, hb2, hg, hn0, hcm, hcs, htk⟩
  · obtain rfl : m = [] := List.length_eq_zero_iff.1 h0
    rw [List.append_nil] at h
    exact wpList_append_own_none hgd s x t ho base e i k ht hi1 v l.length (rowOf enc l) hs hown hx (h v w hown (World.grownBy.refl _ _))
  · refine wpList_append_own w hgd s x t ho base e i z k bytes ht hi1 hz hsize hby hzs hsz v l.length (rowOf enc l) hs hown ⟨g, 0, none⟩ m.length cap (rowOf enc m) hx (rowOf_length hk m) (fun j u hu => ?_) (fun u hu => ?_) (by simp only [maxLen]; omega) ?_ hbase (fun v' w' h2 h3 _ => h v' w' ?_ h3)
    · have h2 : (cur.toList.take (m.length * k))[j]? = some u := by rw [htk]; exact hu
      rw [List.getElem?_take] at h2
      have h3 : cur[j]? = some u := by
        split at h2
        · simpa using h2
        · cases h2
      have h4 : w.cell? ⟨g, j, none⟩ = some u := by simp [World.cell?, hg, h3]
      unfold Addr.add
      split
      · rename_i h0; subst h0; exact h4
      · simpa using h4
    · obtain ⟨y, _, hy⟩ := List.mem_flatMap.1 hu
      exact h1 y u hy
    · exact Nat.le_trans (Nat.mul_le_mul hn hb) (by omega)
    · unfold Own
      rw [List.length_append, rowOf_append]; exact h2
end Go.Proofs.YtmngghglcgmkeaaGreatDoor

/- The plain laws of the store: what is told stays; views; imports again; cancels. -/
namespace Go.Proofs.YtmngghglcgmkeaaGreatDoor
open Go.RowKit Go.Sort

/-- The store behind facts, told one by one. -/
def tellL (L l : List Fa) : List Fa := l.foldl (fun L f => (addL L f).1) L
theorem tellL_nil (L : List Fa) : tellL L [] = L := rfl
theorem tellL_cons (L : List Fa) (f : Fa) (l : List Fa) : tellL L (f :: l) = tellL (addL L f).1 l := rfl
theorem tellL_snoc (L l : List Fa) (f : Fa) : tellL L (l ++ [f]) = (addL (tellL L l) f).1 := by unfold tellL; rw [List.foldl_append]; rfl
theorem tellL_take {L l : List Fa} {k : Nat} {f : Fa} (h : l[k]? = some f) : tellL L (l.take (k + 1)) = (addL (tellL L (l.take k)) f).1 := by
  rw [List.take_add_one, h]; exact tellL_snoc _ _ _
theorem addL_or (L : List Fa) (f : Fa) : (∃ e, e ≠ 0 ∧ addL L f = (L, e)) ∨ (addL L f = (L ++ [f], 0) ∧ L.length < 4096 ∧ chkF f = 0 ∧ placeI L f.id < 0 ∧ canE L f = 0) := by
  unfold addL
  by_cases h1 : 4096 ≤ L.length
  · rw [if_pos h1]; exact .inl ⟨5, by omega, rfl⟩
  rw [if_neg h1]
  by_cases h2 : chkF f ≠ 0
  · rw [if_pos h2]; exact .inl ⟨_, h2, rfl⟩
  rw [if_neg h2]
  by_cases h3 : 0 ≤ placeI L f.id
  · rw [if_pos h3]; exact .inl ⟨7, by omega, rfl⟩
  rw [if_neg h3]
  by_cases h4 : canE L f ≠ 0
  · rw [if_pos h4]; exact .inl ⟨_, h4, rfl⟩
  rw [if_neg h4]
  exact .inr ⟨rfl, by omega, by simpa using h2, by omega, by simpa using h4⟩
theorem addL_pre (L : List Fa) (f : Fa) : L <+: (addL L f).1 := by
  rcases addL_or L f with ⟨e, _, h⟩ | ⟨h, _⟩
  · rw [h]; exact List.prefix_refl _
  · rw [h]; exact ⟨[f], rfl⟩
theorem tellL_pre : ∀ (l L : List Fa), L <+: tellL L l
  | [], _ => List.prefix_refl _
  | f :: l, L => (addL_pre L f).trans (tellL_pre l _)
theorem addL_len1 (L : List Fa) (f : Fa) : (addL L f).1.length ≤ L.length + 1 := by
  rcases addL_or L f with ⟨e, _, h⟩ | ⟨h, _⟩
  · rw [h]; exact Nat.le_succ _
  · rw [h]; simp
theorem tellL_len : ∀ (l L : List Fa), (tellL L l).length ≤ L.length + l.length
  | [], _ => Nat.le_refl _
  | f :: l, L => by
    have h1 := tellL_len l (addL L f).1
    have h2 := addL_len1 L f
    rw [tellL_cons, List.length_cons]; omega
theorem addL_all {p : Fa → Prop} {L : List Fa} {f : Fa} (hL : ∀ x ∈ L, p x) (hf : p f) : ∀ x ∈ (addL L f).1, p x := by
  rcases addL_or L f with ⟨e, _, h⟩ | ⟨h, _⟩
  · rw [h]; exact hL
  · rw [h]
    intro x hx
    rcases List.mem_append.1 hx with h | h
    · exact hL x h
    · rw [List.mem_singleton.1 h]; exact hf
theorem tellL_all {p : Fa → Prop} : ∀ {l L : List Fa}, (∀ x ∈ L, p x) → (∀ x ∈ l, p x) → ∀ x ∈ tellL L l, p x
  | [], _, hL, _ => hL
  | f :: l, L, hL, hl => tellL_all (l := l) (L := (addL L f).1) (addL_all hL (hl f (by simp))) (fun x hx => hl x (List.mem_cons_of_mem _ hx))

/-- The facts in force. -/
def forceL (L : List Fa) : List Kn := chosen notCancel L L.length
/-- Those that aren't in another list. -/
def butL (X Y : List Kn) : List Kn := X.filter fun x => decide (kbs x ∉ Y.map kbs)
/-- What is in force in just one of two views, side by side. -/
def bothL (X Y : List Kn) : List Kn := butL X Y ++ butL Y X
theorem butL_self (X : List Kn) : butL X X = [] := by
  unfold butL
  rw [List.filter_eq_nil_iff]
  intro x hx
  simp only [decide_eq_true_eq, Decidable.not_not]
  exact List.mem_map.2 ⟨x, hx, rfl⟩
theorem bothL_self (X : List Kn) : bothL X X = [] := by unfold bothL; rw [butL_self]; rfl
theorem butL_len (X Y : List Kn) : (butL X Y).length ≤ X.length := List.length_filter_le _ _
theorem bothL_len (X Y : List Kn) : (bothL X Y).length ≤ X.length + Y.length := by
  unfold bothL
  rw [List.length_append]
  have := butL_len X Y
  have := butL_len Y X
  omega
theorem mem_chosen {p : Fa → Bool} {L : List Fa} {k : Nat} {x : Kn} (h : x ∈ chosen p L k) : ∃ i : Nat, i < k ∧ x.1 = (i : Int) + 1 ∧ L[i]? = some x.2 ∧ takenB L ((i : Int) + 1) = false ∧ p x.2 = true := by
  unfold chosen at h
  obtain ⟨i, hi, he⟩ := List.mem_filterMap.1 h
  cases hL : L[i]? with
  | none => rw [hL] at he; simp at he
  | some f =>
    rw [hL] at he
    by_cases h1 : takenB L ((i : Int) + 1) = true
    · simp [h1] at he
    · by_cases h2 : p f = true
      · simp only [if_neg h1, if_pos h2, Option.some.injEq] at he
        subst he
        exact ⟨i, List.mem_range.1 hi, rfl, hL, by simpa using h1, h2⟩
      · simp [h1, h2] at he
theorem chosen_fit {p : Fa → Bool} {L : List Fa} {k : Nat} (hL : ∀ f ∈ L, Fit f) (hk : k ≤ 1000000) : ∀ x ∈ chosen p L k, FitK x := by
  intro x hx
  obtain ⟨i, hi, h1, h2, _⟩ := mem_chosen hx
  exact ⟨by omega, hL _ (List.mem_of_getElem? h2)⟩
theorem forceL_len (L : List Fa) : (forceL L).length ≤ L.length := chosen_len _ _ _

/-! ### An import, again -/
theorem idxI_append {id : Int} {L M : List Fa} {j : Nat} (h : 0 ≤ idxI id j L) : idxI id j (L ++ M) = idxI id j L := by
  induction L generalizing j with
  | nil => exact absurd h (by unfold idxI; omega)
  | cons f L ih =>
    rw [List.cons_append]
    unfold idxI at h ⊢
    by_cases hf : f.id = id
    · rw [if_pos hf, if_pos hf]
    · rw [if_neg hf] at h
      rw [if_neg hf, if_neg hf]
      exact ih h
theorem idxI_new {id : Int} {L : List Fa} {f : Fa} {j : Nat} (h : idxI id j L < 0) (hf : f.id = id) : idxI id j (L ++ [f]) = ((j + L.length : Nat) : Int) := by
  induction L generalizing j with
  | nil => unfold idxI; simp [hf]
  | cons g L ih =>
    rw [List.cons_append]
    unfold idxI at h ⊢
    by_cases hg : g.id = id
    · rw [if_pos hg] at h; omega
    · rw [if_neg hg] at h
      rw [if_neg hg, ih h, List.length_cons]
      congr 1; omega
theorem hit_more {O : List Fa} {f : Fa} (g : Fa) (h : hitB O f = true) : hitB (O ++ [g]) f = true := by
  unfold hitB at h ⊢
  rw [Bool.and_eq_true, decide_eq_true_eq] at h
  obtain ⟨h1, h2⟩ := h
  have e : placeI (O ++ [g]) f.id = placeI O f.id := by
    unfold placeI at h1 ⊢
    by_cases h0 : f.id = 0
    · rw [if_pos h0] at h1; omega
    · rw [if_neg h0] at h1 ⊢
      rw [if_neg h0]
      exact idxI_append h1
  rw [e, Bool.and_eq_true, decide_eq_true_eq]
  refine ⟨h1, ?_⟩
  cases hx : O[(placeI O f.id).toNat]? with
  | none => rw [hx] at h2; simp at h2
  | some y =>
    rw [hx] at h2
    have hlt := (List.getElem?_eq_some_iff.1 hx).1
    rw [List.getElem?_append_left hlt, hx]
    exact h2
theorem sameF_self (f : Fa) : sameF f f = true := by unfold sameF; simp
theorem hit_new {O : List Fa} {f : Fa} (h0 : f.id ≠ 0) (h : placeI O f.id < 0) : hitB (O ++ [f]) f = true := by
  have e : placeI (O ++ [f]) f.id = (O.length : Int) := by
    unfold placeI at h ⊢
    rw [if_neg h0] at h
    rw [if_neg h0, idxI_new h rfl]
    congr 1; omega
  unfold hitB
  rw [e]
  simp [sameF_self]
theorem imp_hits : ∀ (l : List Fa) (L O N : List Fa) (p q : Nat), impL L O p l = (N, q, 0) → (∀ f ∈ l, f.id ≠ 0) → (∀ x, hitB O x = true → hitB N x = true) ∧ ∀ f ∈ l, hitB N f = true
  | [], L, O, N, p, q, h, _ => by
    unfold impL at h
    simp only [Prod.mk.injEq] at h
    obtain ⟨rfl, _⟩ := h
    exact ⟨fun _ h => h, fun _ h => absurd h (by simp)⟩
  | f :: l, L, O, N, p, q, h, hid => by
    by_cases hh : hitB O f = true
    · rw [impL_hit L O p f l hh] at h
      obtain ⟨h1, h2⟩ := imp_hits l L O N _ q h (fun g hg => hid g (List.mem_cons_of_mem _ hg))
      refine ⟨h1, fun g hg => ?_⟩
      rcases List.mem_cons.1 hg with rfl | hg
      · exact h1 _ hh
      · exact h2 g hg
    · rcases addL_or O f with ⟨e, he, hN⟩ | ⟨hN, _, _, hp, _⟩
      · rw [impL_add L O p f l (by simpa using hh) hN, if_pos he] at h
        simp only [Prod.mk.injEq] at h
        exact absurd h.2.2 he
      · rw [impL_add L O p f l (by simpa using hh) hN, if_neg (by simp)] at h
        obtain ⟨h1, h2⟩ := imp_hits l L (O ++ [f]) N _ q h (fun g hg => hid g (List.mem_cons_of_mem _ hg))
        refine ⟨fun x hx => h1 x (hit_more f hx), fun g hg => ?_⟩
        rcases List.mem_cons.1 hg with rfl | hg
        · exact h1 _ (hit_new (hid _ (by simp)) hp)
        · exact h2 g hg
theorem imp_all : ∀ (l : List Fa) (L N : List Fa) (p : Nat), (∀ f ∈ l, hitB N f = true) → impL L N p l = (N, p + l.length, 0)
  | [], L, N, p, _ => by unfold impL; rfl
  | f :: l, L, N, p, h => by
    rw [impL_hit L N p f l (h f (by simp)), imp_all l L N _ (fun g hg => h g (List.mem_cons_of_mem _ hg)), List.length_cons]
    congr 2; omega
theorem imp_bad : ∀ (l : List Fa) (L O : List Fa) (p : Nat), (impL L O p l).2.2 ≠ 0 → (impL L O p l).1 = L
  | [], L, O, p, h => by unfold impL at h; simp at h
  | f :: l, L, O, p, h => by
    by_cases hh : hitB O f = true
    · rw [impL_hit L O p f l hh] at h ⊢
      exact imp_bad l L O _ h
    · rcases addL_or O f with ⟨e, he, hN⟩ | ⟨hN, _⟩
      · rw [impL_add L O p f l (by simpa using hh) hN, if_pos he]
      · rw [impL_add L O p f l (by simpa using hh) hN, if_neg (by simp)] at h ⊢
        exact imp_bad l L _ p h
theorem imp_len : ∀ (l : List Fa) (L O : List Fa) (p : Nat), (impL L O p l).1.length ≤ max L.length (O.length + l.length)
  | [], L, O, p => by unfold impL; simp; omega
  | f :: l, L, O, p => by
    by_cases hh : hitB O f = true
    · rw [impL_hit L O p f l hh, List.length_cons]
      have := imp_len l L O (p + 1)
      omega
    · rcases addL_or O f with ⟨e, he, hN⟩ | ⟨hN, _⟩
      · rw [impL_add L O p f l (by simpa using hh) hN, if_pos he]
        show L.length ≤ _
        omega
      · rw [impL_add L O p f l (by simpa using hh) hN, if_neg (by simp), List.length_cons]
        have := imp_len l L (O ++ [f]) p
        rw [List.length_append, List.length_singleton] at this
        omega
theorem imp_mem {P : Fa → Prop} : ∀ (l : List Fa) (L O : List Fa) (p : Nat), (∀ x ∈ L, P x) → (∀ x ∈ O, P x) → (∀ x ∈ l, P x) → ∀ x ∈ (impL L O p l).1, P x
  | [], L, O, p, _, hO, _ => by unfold impL; exact hO
  | f :: l, L, O, p, hL, hO, hl => by
    have hl' : ∀ x ∈ l, P x := fun x hx => hl x (List.mem_cons_of_mem _ hx)
    by_cases hh : hitB O f = true
    · rw [impL_hit L O p f l hh]
      exact imp_mem l L O _ hL hO hl'
    · rcases addL_or O f with ⟨e, he, hN⟩ | ⟨hN, _⟩
      · rw [impL_add L O p f l (by simpa using hh) hN, if_pos he]; exact hL
      · rw [impL_add L O p f l (by simpa using hh) hN, if_neg (by simp)]
        refine imp_mem l L _ p hL (fun x hx => ?_) hl'
        rcases List.mem_append.1 hx with h | h
        · exact hO x h
        · rw [List.mem_singleton.1 h]; exact hl f (by simp)

/-! ### A fact, and a Cancel of it -/
/-- Cancels take back what was told ahead of them. -/
def Backs (L : List Fa) : Prop := ∀ (i : Nat) (f : Fa), L[i]? = some f → f.ki = 18 → f.nu ≤ (i : Int)
theorem Backs.nil : Backs [] := fun i f h => by simp at h
theorem Backs.add {L : List Fa} (h : Backs L) (f : Fa) : Backs (addL L f).1 := by
  rcases addL_or L f with ⟨e, _, hN⟩ | ⟨hN, _, _, _, hc⟩
  · rw [hN]; exact h
  · rw [hN]
    intro i g hg hk
    rcases Nat.lt_or_ge i L.length with hi | hi
    · exact h i g (by rwa [List.getElem?_append_left hi] at hg) hk
    · have hl := (List.getElem?_eq_some_iff.1 hg).1
      simp at hl
      obtain rfl : i = L.length := by omega
      have hgf : g = f := by simpa using hg.symm
      subst hgf
      unfold canE at hc
      rw [if_neg (by simpa using hk)] at hc
      by_cases h6 : (L.length : Int) < g.nu
      · rw [if_pos h6] at hc; omega
      · omega
theorem Backs.tell : ∀ {l L : List Fa}, Backs L → Backs (tellL L l)
  | [], _, h => h
  | f :: l, L, h => Backs.tell (l := l) (L := (addL L f).1) (h.add f)
theorem Backs.taken {L : List Fa} (h : Backs L) {n : Int} (hn : (L.length : Int) ≤ n) : takenB L n = false := by
  unfold takenB
  rw [← Bool.not_eq_true, List.any_eq_true]
  rintro ⟨f, hf, h2⟩
  obtain ⟨i, hi⟩ := List.getElem?_of_mem hf
  have hlt := (List.getElem?_eq_some_iff.1 hi).1
  rw [decide_eq_true_eq] at h2
  have := h i f hi h2.1
  omega
/-- A Cancel. -/
def canF (n : Int) : Fa := ⟨0, 0, 18, 0, 0, ⟨#[]⟩, n, ⟨#[]⟩⟩
theorem chk_canF {n : Int} (h1 : 1 ≤ n) (h2 : n ≤ 4096) : chkF (canF n) = 0 := by
  have e1 : firmB 18 = true := by decide
  have e2 : lowN 18 = 1 := rfl
  have e3 : highN 18 = 4096 := rfl
  have e4 : daysE (canF n) = 0 := by unfold daysE canF; simp
  have e5 : codeB 18 (ls (canF n).co) = true := by unfold codeB canF ls; simp
  have e6 : textB 18 n (ls (canF n).tx) = true := by unfold textB canF ls; simp
  unfold chkF
  rw [e4]
  show (if _ then _ else _) = _
  have e7 : (canF n).tx.size = 0 := rfl
  simp only [show (canF n).ki = 18 from rfl, show (canF n).pe = 0 from rfl, show (canF n).nu = n from rfl, e1, e2, e3, e5, e6, e7]
  simp; omega
theorem placeI_zero (L : List Fa) : placeI L 0 = -1 := rfl
theorem takenB_append (L M : List Fa) (n : Int) : takenB (L ++ M) n = (takenB L n || takenB M n) := by unfold takenB; rw [List.any_append]
theorem takenB_one (f : Fa) (n : Int) : takenB [f] n = decide (f.ki = 18 ∧ f.nu = n) := by unfold takenB; simp
section
variable {L : List Fa} {f : Fa}
/-- The Cancel is taken. -/
theorem can_ok (hB : Backs L) (hk : f.ki ≠ 18) (hn : L.length + 1 < 4096) : addL (L ++ [f]) (canF ((L.length : Int) + 1)) = (L ++ [f] ++ [canF ((L.length : Int) + 1)], 0) := by
  have h1 := chk_canF (n := (L.length : Int) + 1) (by omega) (by omega)
  have h2 : canE (L ++ [f]) (canF ((L.length : Int) + 1)) = 0 := by
    have h3 : takenB (L ++ [f]) ((L.length : Int) + 1) = false := by
      rw [takenB_append, hB.taken (by omega), takenB_one]; simp [hk]
    have h4 : (L ++ [f])[((canF ((L.length : Int) + 1)).nu - 1).toNat]? = some f := by
      rw [show ((canF ((L.length : Int) + 1)).nu - 1).toNat = L.length by show ((L.length : Int) + 1 - 1).toNat = _; omega]
      simp
    unfold canE
    rw [if_neg (by show ¬ (18 : Int) ≠ 18; omega), h4, if_neg (by show ¬ _ < (L.length : Int) + 1; simp)]
    show (if f.ki = 18 then 11 else if takenB (L ++ [f]) ((L.length : Int) + 1) = true then 18 else 0) = (0 : Int)
    rw [if_neg hk, h3]; rfl
  unfold addL
  rw [if_neg (by rw [List.length_append, List.length_singleton]; omega), h1, if_neg (by omega), if_neg (by show ¬ 0 ≤ placeI _ 0; rw [placeI_zero]; omega), h2, if_neg (by omega)]
/-- A second one is refused. -/
theorem can_twice (hk : f.ki ≠ 18) (hn : L.length + 2 < 4096) : addL (L ++ [f] ++ [canF ((L.length : Int) + 1)]) (canF ((L.length : Int) + 1)) = (L ++ [f] ++ [canF ((L.length : Int) + 1)], 18) := by
  have h1 := chk_canF (n := (L.length : Int) + 1) (by omega) (by omega)
  have h2 : canE (L ++ [f] ++ [canF ((L.length : Int) + 1)]) (canF ((L.length : Int) + 1)) = 18 := by
    have h3 : takenB (L ++ [f] ++ [canF ((L.length : Int) + 1)]) ((L.length : Int) + 1) = true := by
      rw [takenB_append, takenB_one]; simp [canF]
    have h4 : (L ++ [f] ++ [canF ((L.length : Int) + 1)])[((canF ((L.length : Int) + 1)).nu - 1).toNat]? = some f := by
      rw [show ((canF ((L.length : Int) + 1)).nu - 1).toNat = L.length by show ((L.length : Int) + 1 - 1).toNat = _; omega]
      simp
    unfold canE
    rw [if_neg (by show ¬ (18 : Int) ≠ 18; omega), h4, if_neg (by show ¬ _ < (L.length : Int) + 1; simp; try omega)]
    show (if f.ki = 18 then 11 else if takenB (L ++ [f] ++ [canF ((L.length : Int) + 1)]) ((L.length : Int) + 1) = true then 18 else 0) = (18 : Int)
    rw [if_neg hk, h3]; rfl
  unfold addL
  rw [if_neg (by simp; omega), h1, if_neg (by omega), if_neg (by show ¬ 0 ≤ placeI _ 0; rw [placeI_zero]; omega), h2, if_pos (by omega)]
theorem chosen_prefix {p : Fa → Bool} {L M : List Fa} {k : Nat} (hk : k ≤ L.length) (h : ∀ n : Int, n ≤ (k : Int) → 1 ≤ n → takenB M n = false) : chosen p (L ++ M) k = chosen p L k := by
  induction k with
  | zero => rfl
  | succ k ih =>
    obtain ⟨f, hf⟩ : ∃ f, L[k]? = some f := ⟨_, List.getElem?_eq_getElem (by omega)⟩
    rw [chosen_succ p hf, chosen_succ p (by rw [List.getElem?_append_left (by omega)]; exact hf), ih (by omega) (fun n h1 h2 => h n (by omega) h2), takenB_append, h ((k : Int) + 1) (by omega) (by omega), Bool.or_false]
/-- The fact is in force behind its telling. -/
theorem force_told (hB : Backs L) (hk : f.ki ≠ 18) : forceL (L ++ [f]) = forceL L ++ [((L.length : Int) + 1, f)] := by
  unfold forceL
  have hg : (L ++ [f])[L.length]? = some f := by simp
  rw [List.length_append, List.length_singleton, chosen_succ _ hg, chosen_prefix (Nat.le_refl _) (fun n _ _ => by rw [takenB_one]; simp [hk]), takenB_append, hB.taken (by omega), takenB_one]
  have h2 : notCancel f = true := by unfold notCancel; simpa using hk
  simp [hk, h2]
/-- Behind the Cancel all is as it was. -/
theorem force_back (hk : f.ki ≠ 18) : forceL (L ++ [f] ++ [canF ((L.length : Int) + 1)]) = forceL L := by
  unfold forceL
  have e0 : ∀ n : Int, takenB [f] n = false := fun n => by rw [takenB_one]; simp [hk]
  have e1 : ∀ n : Int, takenB [canF ((L.length : Int) + 1)] n = decide ((L.length : Int) + 1 = n) := fun n => by rw [takenB_one]; simp [canF]
  have h1 : (L ++ [f] ++ [canF ((L.length : Int) + 1)])[L.length]? = some f := by simp
  have h2 : (L ++ [f] ++ [canF ((L.length : Int) + 1)])[L.length + 1]? = some (canF ((L.length : Int) + 1)) := by
    rw [List.getElem?_append_right (by simp)]; simp
  have h3 : (L ++ [f] ++ [canF ((L.length : Int) + 1)]).length = L.length + 1 + 1 := by simp
  have h4 : notCancel (canF ((L.length : Int) + 1)) = false := by unfold notCancel canF; simp
  rw [h3, chosen_succ _ h2, chosen_succ _ h1, h4]
  have h5 : takenB (L ++ [f] ++ [canF ((L.length : Int) + 1)]) ((L.length : Int) + 1) = true := by rw [takenB_append, e1]; simp
  have h6 : L ++ [f] ++ [canF ((L.length : Int) + 1)] = L ++ ([f] ++ [canF ((L.length : Int) + 1)]) := List.append_assoc _ _ _
  rw [h5, List.append_assoc, h6, chosen_prefix (Nat.le_refl _) (fun n hn _ => by rw [takenB_append, e0, e1, Bool.false_or]; exact decide_eq_false (by omega))]
  simp
end
theorem mem_force_n {L : List Fa} {x : Kn} (h : x ∈ forceL L) : x.1 ≤ (L.length : Int) := by
  obtain ⟨i, hi, h1, _⟩ := mem_chosen h
  omega
theorem kbs_inj {x y : Kn} (hx : FitK x) (hy : FitK y) (h : kbs x = kbs y) : x = y := keyK_inj hx hy (by rw [keyK_eq, keyK_eq, h])
theorem both_told {X : List Kn} {x : Kn} (hX : ∀ y ∈ X, FitK y) (hx : FitK x) (hn : x ∉ X) : bothL X (X ++ [x]) = [x] := by
  have h1 : butL X (X ++ [x]) = [] := by
    unfold butL
    rw [List.filter_eq_nil_iff]
    intro y hy
    simp only [decide_eq_true_eq, Decidable.not_not]
    exact List.mem_map.2 ⟨y, by simp [hy], rfl⟩
  have h2 : butL (X ++ [x]) X = [x] := by
    unfold butL
    rw [List.filter_append]
    have h3 := butL_self X
    unfold butL at h3
    rw [h3, List.filter_cons, if_pos, List.filter_nil]
    · rfl
    · simp only [decide_eq_true_eq]
      intro h
      obtain ⟨y, hy, he⟩ := List.mem_map.1 h
      exact hn (kbs_inj (hX y hy) hx he ▸ hy)
  unfold bothL
  rw [h1, h2]; rfl
end Go.Proofs.YtmngghglcgmkeaaGreatDoor

/- What is in force in just one of two views: Changed. -/
namespace Go.Proofs.YtmngghglcgmkeaaGreatDoor
open Go.RowKit Go.Sort

/-- What is in force in just one of two views, by the numbers. -/
def changedL (X Y : List Fa) : List Kn := ss lt (bothL (forceL X) (forceL Y))
theorem changedL_len (X Y : List Fa) : (changedL X Y).length = (bothL (forceL X) (forceL Y)).length := ss_length _
/-- A row of one's own as a slice. -/
theorem Own.sl {B : Nat} {v : Value} {l : List Kn} {w : World} (h : Own encK 9 67 B v l w) : ∃ A cap, v = .slice A l.length cap ∧ l.length ≤ cap ∧ SlK w A l := by
  by_cases h0 : l = []
  · subst h0
    rcases h.2 with ⟨rfl, _⟩ | ⟨g, cap, cur, rfl, hb, hg, hn0, hcm, hcs, ht⟩
    · exact ⟨none, 0, rfl, Nat.le_refl _, fun hl => absurd rfl hl⟩
    · exact ⟨some ⟨g, 0, none⟩, cap, rfl, Nat.zero_le _, fun hl => absurd rfl hl⟩
  · obtain ⟨g, cap, rfl, hb, hr⟩ := h.row encK_len h0
    exact ⟨some ⟨g, 0, none⟩, cap, rfl, hr.le, fun _ => ⟨g, 0, rfl, hr.lt, fun i x hx j u hu => by rw [Nat.zero_add]; exact hr.cell hx hu⟩⟩
def ChangedR (X Y : List Fa) (e : Ending) (w' : World) : Prop := ∃ C cap, e = .returned (.slice C (changedL X Y).length cap) ∧ (changedL X Y).length ≤ cap ∧ SlK w' C (changedL X Y)

end Go.Proofs.YtmngghglcgmkeaaGreatDoor
