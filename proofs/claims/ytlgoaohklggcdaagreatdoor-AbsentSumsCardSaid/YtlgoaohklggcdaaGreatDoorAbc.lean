import Derived.Test.YtlgoaohklggcdaaGreatDoorAbb
/- The minutes and days of absences, without the program. -/
namespace Go.Proofs.YtlgoaohklggcdaaGreatDoor
open Go.RowKit Go.Sort

def SU (g : Int → Int) (a b : Int) : Int := sumD g a (b - a).toNat
theorem sumD_add (g : Int → Int) (F : Int) (m : Nat) : ∀ n : Nat, sumD g F (m + n) = sumD g F m + sumD g (F + m) n
  | 0 => by simp [sumD]
  | n + 1 => by
    rw [← Nat.add_assoc, sumD, sumD, sumD_add g F m n, show F + ((m + n : Nat) : Int) = F + (m : Int) + (n : Int) by omega]
    omega
theorem sumD_congr {f g : Int → Int} (F : Int) : ∀ n : Nat, (∀ d, F ≤ d → d < F + n → f d = g d) → sumD f F n = sumD g F n
  | 0, _ => rfl
  | n + 1, h => by rw [sumD, sumD, sumD_congr F n (fun d h1 h2 => h d h1 (by omega)), h (F + n) (by omega) (by omega)]
theorem SU_split (g : Int → Int) {a b c : Int} (h1 : a ≤ b) (h2 : b ≤ c) : SU g a c = SU g a b + SU g b c := by
  unfold SU
  rw [show (c - a).toNat = (b - a).toNat + (c - b).toNat by omega, sumD_add, show a + ((b - a).toNat : Int) = b by omega]
theorem SU_congr {f g : Int → Int} {a b : Int} (h : ∀ d, a ≤ d → d < b → f d = g d) : SU f a b = SU g a b := sumD_congr a _ fun d h1 h2 => h d h1 (by omega)
theorem SU_none (g : Int → Int) {a b : Int} (h : b ≤ a) : SU g a b = 0 := by
  unfold SU
  rw [show (b - a).toNat = 0 by omega]
  rfl
theorem SU_zero {g : Int → Int} {a b : Int} (h : ∀ d, a ≤ d → d < b → g d = 0) : SU g a b = 0 := by
  rw [SU_congr (g := fun _ => 0) h]
  exact sumD_zero (fun _ => rfl) _ _
def covB (P : List Spn) (d : Int) : Bool := P.any fun p => decide (p.1 ≤ d) && decide (d < p.2)
theorem covB_cons (p : Spn) (P : List Spn) (d : Int) : covB (p :: P) d = ((decide (p.1 ≤ d) && decide (d < p.2)) || covB P d) := rfl
theorem covB_false {P : List Spn} {d : Int} (h : ∀ p ∈ P, d < p.1 ∨ p.2 ≤ d) : covB P d = false := by
  unfold covB
  rw [List.any_eq_false]
  intro p hp
  have := h p hp
  simp
  omega
def sumT (T : Int → Int → Int) : List Spn → Int
  | [] => 0
  | p :: P => (if p.1 < p.2 then T p.1 p.2 else 0) + sumT T P
theorem cut_sum (g : Int → Int) (U : Int) : ∀ (P : List Spn) (e : Int), P.Pairwise (fun x y => x.1 ≤ y.1) → (∀ p ∈ P, p.2 ≤ U) → sumT (SU g) (cutP e P) = SU (fun d => if covB P d = true then g d else 0) e U
  | [], e, _, _ => by
    rw [SU_zero (fun d _ _ => by simp [covB])]
    rfl
  | p :: P, e, hp, hU => by
    have hp2 := List.pairwise_cons.1 hp
    have hpU := hU p List.mem_cons_self
    rw [cutP, sumT]
    have ih := cut_sum g U P (max e p.2) hp2.2 (fun q hq => hU q (List.mem_cons_of_mem _ hq))
    rw [ih]
    simp only
    have hlate : ∀ d, p.2 ≤ d → covB (p :: P) d = covB P d := fun d hd => by
      rw [covB_cons, decide_eq_false (p := d < p.2) (by omega)]; simp
    by_cases hlt : max p.1 e < p.2
    · rw [if_pos hlt, show max e p.2 = p.2 by omega]
      rw [SU_split (fun d => if covB (p :: P) d = true then g d else 0) (show e ≤ max p.1 e by omega) (show max p.1 e ≤ U by omega), SU_split (fun d => if covB (p :: P) d = true then g d else 0) (Int.le_of_lt hlt) hpU]
      rw [SU_zero (a := e) (b := max p.1 e) (fun d h1 h2 => by
        rw [covB_false, if_neg (by simp)]
        intro q hq
        left
        rcases List.mem_cons.1 hq with rfl | hq
        · omega
        · have := hp2.1 q hq; omega)]
      rw [SU_congr (a := max p.1 e) (b := p.2) (g := g) (f := fun d => if covB (p :: P) d = true then g d else 0) (fun d h1 h2 => by
        rw [covB_cons, decide_eq_true (p := p.1 ≤ d) (by omega), decide_eq_true (p := d < p.2) (by omega)]; simp)]
      rw [SU_congr (a := p.2) (b := U) (g := fun d => if covB P d = true then g d else 0) (f := fun d => if covB (p :: P) d = true then g d else 0) (fun d h1 _ => by simp only [hlate d h1])]
      omega
    · rw [if_neg hlt, Int.zero_add]
      by_cases hpe : p.2 ≤ e
      · rw [show max e p.2 = e by omega]
        exact SU_congr fun d h1 _ => by simp only [hlate d (by omega)]
      · rw [show max e p.2 = p.2 by omega]
        rw [SU_split (fun d => if covB (p :: P) d = true then g d else 0) (show e ≤ p.2 by omega) hpU]
        rw [SU_zero (a := e) (b := p.2) (fun d h1 h2 => by
          rw [covB_false, if_neg (by simp)]
          intro q hq
          left
          rcases List.mem_cons.1 hq with rfl | hq
          · omega
          · have := hp2.1 q hq; omega), Int.zero_add]
        exact SU_congr fun d h1 _ => by simp only [hlate d h1]
def calB (d : Int) : Bool := decide (-25567 ≤ d) && decide (d ≤ 84005)
/-- What a day has, in the calendar. -/
def inCal (f : Int → Int) (ok : Bool) (d : Int) : Int := if (ok && calB d) = true then f d else 0
theorem SU_cal (f : Int → Int) (ok : Bool) {a b : Int} (h : a ≤ b) : (if ok = true then sumD f (loD a) (lenD a b) else 0) = SU (inCal f ok) a b := by
  have hl : ∀ a b : Int, sumD f a (b - a).toNat = SU f a b := fun _ _ => rfl
  cases ok with
  | false => rw [if_neg (by simp), SU_zero]; intro d _ _; simp [inCal]
  | true =>
    rw [if_pos rfl]
    unfold lenD
    rw [hl]
    have hout : ∀ d, ¬ (-25567 ≤ d ∧ d ≤ 84005) → inCal f true d = 0 := fun d hd => by
      unfold inCal calB
      by_cases h1 : -25567 ≤ d
      · rw [decide_eq_false (p := d ≤ 84005) (by omega)]; simp
      · rw [decide_eq_false h1]; simp
    have hin : ∀ d, -25567 ≤ d → d ≤ 84005 → inCal f true d = f d := fun d h1 h2 => by
      unfold inCal calB
      rw [decide_eq_true h1, decide_eq_true h2]; rfl
    have hlo : loD a = max a (-25567) := rfl
    have hhi : hiD b = min b 84006 := rfl
    by_cases hlh : loD a ≤ hiD b
    · rw [SU_split (inCal f true) (show a ≤ loD a by omega) (show loD a ≤ b by omega), SU_split (inCal f true) hlh (show hiD b ≤ b by omega)]
      rw [SU_zero (a := a) (b := loD a) (fun d h1 h2 => hout d (by omega)), SU_zero (a := hiD b) (b := b) (fun d h1 h2 => hout d (by omega))]
      rw [SU_congr (a := loD a) (b := hiD b) (f := inCal f true) (g := f) (fun d h1 h2 => hin d (by omega) (by omega))]
      omega
    · rw [SU_none f (by omega), SU_zero (fun d h1 h2 => hout d (by omega))]
def okP2 (h : Nat → Int) (D : List Int) : Bool := decide (chkP h D = 0)
def gMin (h : Nat → Int) (D : List Int) : Int → Int := inCal (onV h D) (okP2 h D)
def gDay (h : Nat → Int) (D : List Int) : Int → Int := inCal (oneD (onV h D)) (okP2 h D)
theorem wkM_SU (h : Nat → Int) (D : List Int) {a b : Int} (hab : a ≤ b) : wkM h D a b = SU (gMin h D) a b := by
  unfold gMin
  rw [← SU_cal _ _ hab]
  unfold wkM okP2
  by_cases hc : chkP h D = 0 <;> simp [hc]
theorem wkN_SU (h : Nat → Int) (D : List Int) {a b : Int} (hab : a ≤ b) : wkN h D a b = SU (gDay h D) a b := by
  unfold gDay
  rw [← SU_cal _ _ hab]
  unfold wkN okP2
  by_cases hc : chkP h D = 0 <;> simp [hc]
theorem sumT_congr {T S : Int → Int → Int} : ∀ (P : List Spn), (∀ a b, a ≤ b → T a b = S a b) → sumT T P = sumT S P
  | [], _ => rfl
  | p :: P, h => by
    rw [sumT, sumT, sumT_congr P h]
    by_cases hp : p.1 < p.2
    · rw [if_pos hp, if_pos hp, h _ _ (Int.le_of_lt hp)]
    · rw [if_neg hp, if_neg hp]
/-- Is one away on a day, by absences of a kind? -/
def awayB (l : List Ab) (k d : Int) : Bool := l.any fun x => decide (x.ki = k) && decide (x.fr ≤ d) && decide (d < x.to)
theorem cov_perm {l m : List Spn} (h : m.Perm l) (d : Int) : covB m d = covB l d := by
  unfold covB
  rw [Bool.eq_iff_iff, List.any_eq_true, List.any_eq_true]
  exact ⟨fun ⟨x, hx, h1⟩ => ⟨x, h.mem_iff.1 hx, h1⟩, fun ⟨x, hx, h1⟩ => ⟨x, h.mem_iff.2 hx, h1⟩⟩
theorem cov_away (l : List Ab) {F U k d : Int} (h1 : F ≤ d) (h2 : d < U) : covB (selA l F U k) d = awayB l k d := by
  unfold covB awayB selA
  rw [Bool.eq_iff_iff, List.any_eq_true, List.any_eq_true]
  constructor
  · rintro ⟨p, hp, h3⟩
    obtain ⟨x, hx, hs⟩ := List.mem_filterMap.1 hp
    split at hs
    · rename_i hk
      injection hs with hs
      subst hs
      simp at h3
      exact ⟨x, hx, by simp [hk]; omega⟩
    · cases hs
  · rintro ⟨x, hx, h3⟩
    simp at h3
    refine ⟨(max x.fr F, min x.to U), List.mem_filterMap.2 ⟨x, hx, by rw [if_pos h3.1.1]⟩, ?_⟩
    simp
    omega
theorem sel_le {l : List Ab} {F U k : Int} : ∀ p ∈ selA l F U k, p.2 ≤ U := fun p hp => by
  unfold selA at hp
  obtain ⟨x, hx, hs⟩ := List.mem_filterMap.1 hp
  split at hs
  · injection hs with hs
    subst hs
    simp
    omega
  · cases hs
/-- The sum over absences. -/
theorem ab_law {l : List Ab} {F U k : Int} {m : List Spn} (hm : SrtS (selA l F U k) m) (g : Int → Int) {T : Int → Int → Int} (hT : ∀ a b, a ≤ b → T a b = SU g a b) : sumT T (cutP F m) = SU (fun d => if awayB l k d = true then g d else 0) F U := by
  rw [sumT_congr _ hT, cut_sum g U m F hm.2 (fun p hp => sel_le p (hm.1.mem_iff.1 hp))]
  exact SU_congr fun d h1 h2 => by rw [cov_perm hm.1, cov_away l h1 h2]
theorem sumT_take (T : Int → Int → Int) {P : List Spn} {k : Nat} {p : Spn} (h : P[k]? = some p) : sumT T (P.take (k + 1)) = sumT T (P.take k) + (if p.1 < p.2 then T p.1 p.2 else 0) := by
  have happ : ∀ A B : List Spn, sumT T (A ++ B) = sumT T A + sumT T B := fun A B => by
    induction A with
    | nil => simp [sumT]
    | cons a A ih => rw [List.cons_append, sumT, sumT, ih]; omega
  rw [List.take_add_one, h, Option.toList_some, happ]
  simp [sumT]
theorem sumT_bd {T : Int → Int → Int} {c : Int} (hc : 0 ≤ c) (hT : ∀ a b, 0 ≤ T a b ∧ T a b ≤ c) : ∀ P : List Spn, 0 ≤ sumT T P ∧ sumT T P ≤ c * P.length
  | [] => by simp [sumT]
  | p :: P => by
    have h1 := sumT_bd hc hT P
    have h2 := hT p.1 p.2
    rw [sumT, List.length_cons, Int.natCast_add, Int.mul_add]
    split <;> omega
theorem wkM_bd (h : Nat → Int) (D : List Int) (a b : Int) : 0 ≤ wkM h D a b ∧ wkM h D a b ≤ 200000000 := by
  unfold wkM
  by_cases hc : chkP h D = 0
  · rw [if_pos hc]
    have h1 := sumD_bd (onV_bd (chkP_ok hc).1 D) (loD a) (lenD a b)
    have h2 : lenD a b ≤ 109573 := by unfold lenD hiD loD; omega
    omega
  · rw [if_neg hc]; omega
theorem wkN_bd (h : Nat → Int) (D : List Int) (a b : Int) : 0 ≤ wkN h D a b ∧ wkN h D a b ≤ 200000000 := by
  unfold wkN
  by_cases hc : chkP h D = 0
  · rw [if_pos hc]
    have h1 := sumD_bd (oneD_bd (onV h D)) (loD a) (lenD a b)
    have h2 : lenD a b ≤ 109573 := by unfold lenD hiD loD; omega
    omega
  · rw [if_neg hc]; omega
end Go.Proofs.YtlgoaohklggcdaaGreatDoor
