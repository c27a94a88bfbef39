/- Out of: Ys1. -/
import Derived.Test.YtgepbkldgnjpfaaGreatDoorZgaf
/- YearOrders, in plain: an order that stands in each month with one total is never paid more than that. -/
namespace Go.Proofs.YtgepbkldgnjpfaaGreatDoor
open Go.RowKit Go.Sort Go.BigFrame Go.Maps

def odX (F T : Int) : Od := ⟨cLoan, 0, 0, F, 0, T⟩
theorem att_one {net : Int} {was out : Ass ByteArray Int} {x : Od} {it : List It} (hx : x.co.size ≤ 32) (h : attL net was [x] = (it, out, 0)) (hfx : 0 < x.fx) :
    ∃ c, 0 ≤ c ∧ c ≤ x.fx ∧ (c ≤ lefO was x ∨ c = 0) ∧ it = (if 0 < c then [(x.co, c)] else []) ∧ g0 out x.co = g0 was x.co + c ∧ fitB c = true := by
  unfold attL at h
  split at h
  · injection h with _ h; injection h with _ h; cases h
  split at h
  · rename_i h1; injection h with _ h; injection h with _ h; exact absurd h h1
  rename_i hE
  have hbad := (attE_ok (Decidable.not_not.1 hE) x List.mem_cons_self).2
  rw [Ao.sortO_one x hx, attGo_cons] at h
  split at h
  · injection h with _ h; injection h with _ h; cases h
  split at h
  · injection h with _ h; injection h with _ h; cases h
  have hb := takO_bd (net := net) (was := was) (left := net) (x := x)
  have hw : takO net was net x ≤ x.fx := by
    unfold takO leaL wanO
    rw [if_pos (by omega)]
    simp only [List.foldl_cons, List.foldl_nil]
    omega
  have hf : x.fx ≤ 1125899906842624 := by
    unfold ordBad at hbad
    simp [amtB] at hbad
    omega
  generalize takO net was net x = c at h hb hw
  have h' : ((if 0 < c then ([] : List It) ++ [(x.co, c)] else []), (x.co, g0 was x.co + c) :: was, (0 : Int)) = (it, out, 0) := h
  injection h' with h1 h2
  injection h2 with h2 _
  refine ⟨c, hb.1, hw, hb.2.1, by rw [← h1]; rfl, ?_, ?_⟩
  · rw [← h2]
    show (if x.co = x.co then some (g0 was x.co + c) else getA was x.co).getD 0 = _
    rw [if_pos rfl]
    rfl
  · unfold fitB
    exact decide_eq_true (by omega)
theorem getA_d0 {S : Ste} {M : Mon} (k : Kp) : getA (d0 S M).ln k = none := rfl
theorem d5_none {S : Ste} {M : Mon} {k : Kp} (hk : k.1.1 = 5) : getA (d5 S M).ln k = none := by
  have e5 : (d5 S M).ln = addP 4 (d4 S M).ln (afterL (d4 S M).l M.af).1 := rfl
  have e4 : (d4 S M).ln = addP 3 (d3 S M).ln [(taxS, (Tx.stepV (d3 S M).S.tb (d3 S M).S.tt (d3 S M).b M.i M.o M.al M.ex M.ba).2.1)] := rfl
  have e3 : (d3 S M).ln = addP 6 (addP 2 (d2 S M).ln (socL (d2 S M).S.so (d2 S M).g M.sc).2.1) (socL (d2 S M).S.so (d2 S M).g M.sc).2.2.1 := rfl
  have e2 : (d2 S M).ln = addP 1 (d1 S M).ln (takeL (d1 S M).g (d1 S M).S.be M.be M.li).1 := rfl
  have e1 : (d1 S M).ln = addP 0 (d0 S M).ln M.gr := rfl
  rw [e5, addP_oth (by omega), e4, addP_oth (by omega), e3, addP_oth (by omega), addP_oth (by omega), e2, addP_oth (by omega), e1, addP_oth (by omega)]
  rfl
theorem sumQ_zero {f t : Int} : ∀ {l : List Li}, (∀ x ∈ l, ¬ (f ≤ x.1 ∧ x.1 ≤ t)) → sumQ f t l = 0
  | [], _ => rfl
  | x :: r, h => by rw [sumQ_cons, if_neg (h x List.mem_cons_self), sumQ_zero fun y hy => h y (List.mem_cons_of_mem _ hy)]; rfl
theorem sum5_none {S : Ste} {M : Mon} : sumQ 5 5 (slpG (d5 S M).ln []) = 0 := sumQ_zero fun x hx h => by
  obtain ⟨k, v, _, h1, _, rfl⟩ := (slpG_mem _ _).1 hx
  rw [d5_none (by have : (lnP k v).1 = k.1.1 := rfl; omega)] at h1
  cases h1
theorem d0_od (S : Ste) (M : Mon) : (d0 S M).S.od = S.od := by
  unfold d0
  dsimp only
  split <;> rfl
theorem d5_od (S : Ste) (M : Mon) : (d5 S M).S.od = S.od := (show (d5 S M).S.od = (d0 S M).S.od from rfl).trans (d0_od S M)
/-- What a slip's lines of a part are. -/
theorem ord_step {S S' : Ste} {M : Mon} {y i : Int} {L : List Li} {F T : Int} (hF : 0 < F) (hT : 0 < T) (hM : M.od = [odX F T]) (h : stepM S M = (S', (y, i, L), 0)) (h0 : 0 ≤ g0 S.od cLoan ∧ g0 S.od cLoan ≤ T) :
    g0 S'.od cLoan = g0 S.od cLoan + sumQ 5 5 L ∧ g0 S'.od cLoan ≤ T ∧ 0 ≤ sumQ 5 5 L ∧ ∀ x ∈ L, x.1 = 5 → x.2.1 = cLoan ∧ 0 ≤ x.2.2 ∧ x.2.2 ≤ F := by
  have k := step_ok h
  obtain ⟨c, c0, c1, c2, c3, c4, c5⟩ := att_one (x := odX F T) (net := (d5 S M).l) (was := S.od) (it := (attL (d5 S M).l S.od [odX F T]).1) (out := (attL (d5 S M).l S.od [odX F T]).2.1) (show cLoan.size ≤ 32 by decide) (by
    have h6 := k.e6
    have h7 : (attL (d5 S M).l (d5 S M).S.od M.od).2.2 = 0 := h6
    rw [d5_od, hM] at h7
    rw [← h7]) hF
  have hS : S'.od = (attL (d5 S M).l S.od [odX F T]).2.1 := by
    rw [k.st]
    show (attL (d5 S M).l (d5 S M).S.od M.od).2.1 = _
    rw [d5_od, hM]
  have hln : (d6 S M).ln = addP 5 (d5 S M).ln (if 0 < c then [(cLoan, c)] else []) := by
    show addP 5 (d5 S M).ln (attL (d5 S M).l (d5 S M).S.od M.od).1 = _
    rw [d5_od, hM, c3]
    rfl
  have hL := (slpR_ok k.sl).2
  have hc : fitB c = true := c5
  have hcb := fitB_bd hc
  have get5 : ∀ q : Kp, q.1.1 = 5 → getA (d6 S M).ln q = if 0 < c ∧ q.1.2 = cLoan then some c else none := fun q hq => by
    rw [hln]
    by_cases hp : 0 < c
    · rw [if_pos hp, addP_cons (⟨by omega, by show cLoan.size ≤ 32; decide⟩)]
      show (if (⟨(5, cLoan), _⟩ : Kp) = q then some (IntKind.i64.wrap (gP (d5 S M).ln ⟨(5, cLoan), _⟩ + c)) else getA (d5 S M).ln q) = _
      by_cases e : (⟨(5, cLoan), ⟨by omega, by decide⟩⟩ : Kp) = q
      · rw [if_pos e, if_pos ⟨hp, by rw [← e]⟩]
        unfold gP
        rw [d5_none (by rfl)]
        show some (IntKind.i64.wrap (0 + c)) = some c
        congr 1
        rw [IntKind.wrap_i64]
        omega
      · rw [if_neg e, d5_none hq, if_neg]
        rintro ⟨_, e2⟩
        exact e (Subtype.ext (Prod.ext hq.symm e2.symm))
    · rw [if_neg hp, if_neg (fun h => hp h.1)]
      exact d5_none hq
  have hmem : ∀ x ∈ L, x.1 = 5 → x.2.1 = cLoan ∧ x.2.2 = c ∧ 0 < c := fun x hx hx5 => by
    rw [hL] at hx
    obtain ⟨q, v, h1, h2, rfl⟩ := slpS_mem.1 hx
    rw [get5 q hx5] at h1
    split at h1
    · rename_i h3
      cases h1
      exact ⟨h3.2, rfl, h3.1⟩
    · cases h1
  have hsum : sumQ 5 5 L = c := by
    have hq0 : sumQ 5 5 L = sumQ 5 5 (slpG (d6 S M).ln []) := by rw [hL]; exact sumQ_perm (List.mergeSort_perm _ _)
    rw [hq0, hln]
    by_cases hp : 0 < c
    · rw [if_pos hp, addP_cons (⟨by omega, by show cLoan.size ≤ 32; decide⟩)]
      show sumQ 5 5 (slpG ((⟨(5, cLoan), _⟩, IntKind.i64.wrap (gP (d5 S M).ln ⟨(5, cLoan), _⟩ + c)) :: (d5 S M).ln) []) = c
      rw [slpG_put]
      have hg : gP (d5 S M).ln ⟨(5, cLoan), ⟨by omega, by decide⟩⟩ = 0 := by unfold gP; rw [d5_none (by rfl)]; rfl
      rw [hg]
      have hz : sumQ 5 5 (slpG (d5 S M).ln []) = 0 := sum5_none
      rw [hz]
      unfold inQ
      simp only []
      rw [IntKind.wrap_i64]
      omega
    · rw [if_neg hp]
      show sumQ 5 5 (slpG (d5 S M).ln []) = c
      rw [sum5_none]
      omega
  refine ⟨?_, ?_, by omega, fun x hx h5 => ?_⟩
  · rw [hS, hsum]; exact c4
  · rw [hS]
    have e4 : g0 (attL (d5 S M).l S.od [odX F T]).2.1 cLoan = g0 S.od cLoan + c := c4
    rw [e4]
    rcases c2 with c2 | c2
    · unfold lefO at c2
      have : (odX F T).tt = T := rfl
      rw [this, if_neg (by omega)] at c2
      have e : (odX F T).co = cLoan := rfl
      rw [e] at c2
      split at c2 <;> omega
    · omega
  · obtain ⟨g1, g2, g3⟩ := hmem x hx h5
    have : (odX F T).fx = F := rfl
    exact ⟨g1, by omega, by omega⟩
/-- What the slips' lines of orders add up to. -/
def sum5 : List Slp → Int
  | [] => 0
  | x :: r => sumQ 5 5 x.2.2 + sum5 r
theorem sum5_snoc (x : Slp) : ∀ l : List Slp, sum5 (l ++ [x]) = sum5 l + sumQ 5 5 x.2.2
  | [] => by simp [sum5]
  | y :: l => by rw [List.cons_append]; show sumQ 5 5 y.2.2 + sum5 (l ++ [x]) = sumQ 5 5 y.2.2 + sum5 l + _; rw [sum5_snoc x l]; omega
def OrdP (F : Int) (x : Slp) : Prop := slpE x.1 x.2.1 x.2.2 = 0 ∧ 0 ≤ sumQ 5 5 x.2.2 ∧ ∀ z ∈ x.2.2, z.1 = 5 → z.2.1 = cLoan ∧ 0 ≤ z.2.2 ∧ z.2.2 ≤ F
theorem ord_go {F T : Int} (hF : 0 < F) (hT : 0 < T) (S0 : Ste) : ∀ (l : List Mon) (now : Ste) (out : List Slp), (∀ M ∈ l, M.od = [odX F T]) → (∀ x ∈ out, OrdP F x) → sum5 out = g0 now.od cLoan → 0 ≤ sum5 out → sum5 out ≤ T → (resGo S0 now out l).2.2 = 0 → (∀ x ∈ (resGo S0 now out l).1, OrdP F x) ∧ sum5 (resGo S0 now out l).1 ≤ T
  | [], now, out, _, h1, _, _, h4, _ => ⟨h1, h4⟩
  | M :: r, now, out, hl, h1, h2, h3, h4, he => by
    rw [resGo_cons] at he ⊢
    by_cases h0 : (stepM now M).2.2 ≠ 0
    · rw [if_pos h0] at he; exact absurd he h0
    · rw [if_neg h0] at he ⊢
      generalize hq : stepM now M = q at he h0 ⊢
      obtain ⟨S', ⟨y, i, L⟩, e⟩ := q
      have e0 : e = 0 := by simpa using h0
      subst e0
      obtain ⟨g1, g2, g3, g4⟩ := ord_step hF hT (hl M List.mem_cons_self) hq ⟨by omega, by omega⟩
      have gk := (step_ok hq).ok
      refine ord_go hF hT S0 r _ _ (fun M' hM' => hl M' (List.mem_cons_of_mem _ hM')) (fun x hx => ?_) ?_ ?_ ?_ he
      · rcases List.mem_append.1 hx with hx | hx
        · exact h1 x hx
        · rw [List.mem_singleton] at hx
          subst hx
          exact ⟨gk, g3, g4⟩
      · rw [sum5_snoc]; simp only []; omega
      · rw [sum5_snoc]; simp only []; omega
      · rw [sum5_snoc]; simp only []; omega
theorem ord_fold {F T : Int} (hF : 0 < F) (hT : 0 < T) (l : List Mon) (hl : ∀ M ∈ l, M.od = [odX F T]) (h : (foldM l).2.2 = 0) : (∀ x ∈ (foldM l).1, OrdP F x) ∧ sum5 (foldM l).1 ≤ T := by
  unfold foldM resM at h ⊢
  by_cases hn : 4096 < l.length
  · rw [if_pos hn] at h; cases h
  · rw [if_neg hn] at h ⊢
    exact ord_go hF hT _ l _ _ hl (fun x hx => by cases hx) rfl (by decide) (by show (0 : Int) ≤ T; omega) h
end Go.Proofs.YtgepbkldgnjpfaaGreatDoor
