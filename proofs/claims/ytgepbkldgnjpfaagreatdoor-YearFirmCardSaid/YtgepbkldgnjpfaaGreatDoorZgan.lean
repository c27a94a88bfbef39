/- Out of: Ys3. -/
import Derived.Test.YtgepbkldgnjpfaaGreatDoorZgaf
/- YearFirm, in plain: what the firm pays besides changes no other line. -/
namespace Go.Proofs.YtgepbkldgnjpfaaGreatDoor
open Go.RowKit Go.Sort Go.BigFrame Go.Maps

def frm (F : Int) (x : Sch) : Sch := (x.1, x.2.1, F, x.2.2.2)
def prF (s : S4) : Int × Int × Int := (s.1, s.2.1, s.2.2.1)
def prA (m : Ass ByteArray S4) : Ass ByteArray (Int × Int × Int) := m.map fun p => (p.1, prF p.2)
theorem getA_prA (k : ByteArray) : ∀ m : Ass ByteArray S4, getA (prA m) k = (getA m k).map prF
  | [] => rfl
  | p :: r => by
    show (if p.1 = k then some (prF p.2) else getA (prA r) k) = (if p.1 = k then some p.2 else getA r k).map prF
    by_cases h : p.1 = k
    · rw [if_pos h, if_pos h]; rfl
    · rw [if_neg h, if_neg h]; exact getA_prA k r
theorem g4_rel {a b : Ass ByteArray S4} (h : prA a = prA b) (k : ByteArray) : prF (g4 a k) = prF (g4 b k) := by
  have h1 := congrArg (fun m => getA m k) h
  simp only [getA_prA] at h1
  unfold g4
  cases ha : getA a k <;> cases hb : getA b k <;> rw [ha, hb] at h1 <;> simp at h1 ⊢
  exact h1
theorem stp_now {u : S4} {x : Sch} {base : Int} (h : (stpS u x base).2 = 0) : (stpS u x base).1 = nowS u x base := by
  unfold stpS at h ⊢
  by_cases a1 : sumB u.1 u.2.1 u.2.2.1 u.2.2.2 = false
  · rw [if_pos a1] at h; cases h
  rw [if_neg a1] at h ⊢
  by_cases a2 : wroE x ≠ 0
  · rw [if_pos a2] at h; exact absurd h a2
  rw [if_neg a2] at h ⊢
  by_cases a3 : fitB base = false
  · rw [if_pos a3] at h; cases h
  rw [if_neg a3] at h ⊢
  split at h
  · cases h
  · rename_i a4
    rw [if_neg a4]
theorem stp_rel {F base : Int} {u v : S4} {x : Sch} (h : prF u = prF v) (h1 : (stpS u x base).2 = 0) (h2 : (stpS v (frm F x) base).2 = 0) : prF (stpS u x base).1 = prF (stpS v (frm F x) base).1 := by
  obtain ⟨u1, u2, u3, u4⟩ := u
  obtain ⟨v1, v2, v3, v4⟩ := v
  obtain ⟨x1, x2, x3, x4⟩ := x
  unfold prF at h
  simp only [Prod.mk.injEq] at h
  obtain ⟨rfl, rfl, rfl⟩ := h
  rw [stp_now h1, stp_now h2]
  have hi : insP (u1, u2, u3, u4) (x1, x2, x3, x4) base = insP (u1, u2, u3, v4) (x1, x2, F, x4) base := by unfold insP; rfl
  simp only [nowS, prF, frm, hi]
theorem all_rel {F base : Int} {was was' : Ass ByteArray S4} (hw : prA was = prA was') : ∀ (l : List Sch) (met : Ass ByteArray Unit) (out out' : Ass ByteArray S4) (wk fi fi' : List It), prA out = prA out' → (allGo was base met out wk fi l).2.2.2 = 0 → (allGo was' base met out' wk fi' (l.map (frm F))).2.2.2 = 0 →
    prA (allGo was base met out wk fi l).1 = prA (allGo was' base met out' wk fi' (l.map (frm F))).1 ∧ (allGo was base met out wk fi l).2.1 = (allGo was' base met out' wk fi' (l.map (frm F))).2.1
  | [], met, out, out', wk, fi, fi', h, _, _ => ⟨h, rfl⟩
  | x :: r, met, out, out', wk, fi, fi', h, h1, h2 => by
    rw [List.map_cons] at h2 ⊢
    unfold allGo at h1 h2 ⊢
    split at h1
    · cases h1
    rename_i a1
    split at h1
    · rename_i a2; exact absurd h1 a2
    rename_i a2
    split at h2
    · cases h2
    rename_i b1
    split at h2
    · rename_i b2; exact absurd h2 b2
    rename_i b2
    rw [if_neg a1, if_neg a2, if_neg b1, if_neg b2]
    have hg := g4_rel hw x.1
    have hs := stp_rel (F := F) (base := base) (x := x) hg (Decidable.not_not.1 a2) (Decidable.not_not.1 b2)
    have hc : (frm F x).1 = x.1 := rfl
    rw [hc] at h2 ⊢
    have hp : (stpS (g4 was x.1) x base).1.2.2.1 - (g4 was x.1).2.2.1 = (stpS (g4 was' x.1) (frm F x) base).1.2.2.1 - (g4 was' x.1).2.2.1 := by
      unfold prF at hs hg
      simp only [Prod.mk.injEq] at hs hg
      rw [hs.2.2, hg.2.2]
    rw [hp] at h1 ⊢
    refine all_rel hw r _ _ _ _ _ _ ?_ h1 h2
    show (x.1, prF _) :: prA out = (x.1, prF _) :: prA out'
    rw [h, hs]
structure RelF (S T : Ste) : Prop where
  y : S.y = T.y
  i : S.i = T.i
  o : S.o = T.o
  be : S.be = T.be
  so : prA S.so = prA T.so
  tb : S.tb = T.tb
  tt : S.tt = T.tt
  od : S.od = T.od
structure RelD (d e : Sd) : Prop where
  S : RelF d.S e.S
  g : d.g = e.g
  b : d.b = e.b
  l : d.l = e.l
  ln : ∀ k : Kp, k.1.1 ≠ 6 → getA d.ln k = getA e.ln k
theorem leftP6 : ∀ (l : List It) (a : Int), leftP 6 a l = a
  | [], _ => rfl
  | x :: r, a => by
    show leftP 6 (if (6 : Int) = 0 ∨ (6 : Int) = 6 then a else IntKind.i64.wrap (a - x.2)) r = a
    rw [if_pos (.inr rfl)]
    exact leftP6 r a
def mFrm (F : Int) (M : Mon) : Mon := { M with sc := M.sc.map (frm F) }
theorem d0_rel {S T : Ste} {M : Mon} {F : Int} (h : RelF S T) : RelD (d0 S M) (d0 T (mFrm F M)) := by
  obtain ⟨y, i, o, be, so, tb, tt, od⟩ := h
  have e : (mFrm F M).y = M.y ∧ (mFrm F M).i = M.i ∧ (mFrm F M).o = M.o := ⟨rfl, rfl, rfl⟩
  unfold d0
  rw [e.1, e.2.1, e.2.2, ← y]
  by_cases hy : S.y ≠ M.y
  · rw [if_pos hy, if_pos hy]
    exact ⟨⟨rfl, rfl, rfl, rfl, rfl, rfl, rfl, od⟩, rfl, rfl, rfl, fun _ _ => rfl⟩
  · rw [if_neg hy, if_neg hy]
    exact ⟨⟨rfl, rfl, rfl, be, so, tb, tt, od⟩, rfl, rfl, rfl, fun _ _ => rfl⟩
theorem firm_step {S T S' T' : Ste} {M : Mon} {F y i y' i' : Int} {L L' : List Li} (hR : RelF S T) (h : stepM S M = (S', (y, i, L), 0)) (h' : stepM T (mFrm F M) = (T', (y', i', L'), 0)) :
    RelF S' T' ∧ y = y' ∧ i = i' ∧ L.filter (fun z => decide (z.1 ≠ 6)) = L'.filter (fun z => decide (z.1 ≠ 6)) := by
  have k := step_ok h
  have k' := step_ok h'
  have r0 := d0_rel (M := M) (F := F) hR
  have r1 : RelD (d1 S M) (d1 T (mFrm F M)) := by
    refine ⟨r0.S, rfl, rfl, rfl, ?_⟩
    exact addP_ext _ _ _ r0.ln
  have r2 : RelD (d2 S M) (d2 T (mFrm F M)) := by
    have e : takeL (d1 S M).g (d1 S M).S.be M.be M.li = takeL (d1 T (mFrm F M)).g (d1 T (mFrm F M)).S.be (mFrm F M).be (mFrm F M).li := by rw [r1.g, r1.S.be]; rfl
    refine ⟨⟨r1.S.y, r1.S.i, r1.S.o, ?_, r1.S.so, r1.S.tb, r1.S.tt, r1.S.od⟩, r1.g, ?_, ?_, ?_⟩
    · show (takeL _ _ _ _).2.1 = (takeL _ _ _ _).2.1
      rw [e]
    · show leftP 1 _ (takeL _ _ _ _).1 = leftP 1 _ (takeL _ _ _ _).1
      rw [e, r1.b]
    · show leftP 1 _ (takeL _ _ _ _).1 = leftP 1 _ (takeL _ _ _ _).1
      rw [e, r1.l]
    · show ∀ k : Kp, k.1.1 ≠ 6 → getA (addP 1 _ (takeL _ _ _ _).1) k = getA (addP 1 _ (takeL _ _ _ _).1) k
      rw [e]
      exact addP_ext _ _ _ r1.ln
  have r3 : RelD (d3 S M) (d3 T (mFrm F M)) := by
    have hs : prA (socL (d2 S M).S.so (d2 S M).g M.sc).1 = prA (socL (d2 T (mFrm F M)).S.so (d2 T (mFrm F M)).g (mFrm F M).sc).1 ∧ (socL (d2 S M).S.so (d2 S M).g M.sc).2.1 = (socL (d2 T (mFrm F M)).S.so (d2 T (mFrm F M)).g (mFrm F M).sc).2.1 := by
      have e1 : (socL (d2 S M).S.so (d2 S M).g M.sc).2.2.2 = 0 := k.e3
      have e2 : (socL (d2 T (mFrm F M)).S.so (d2 T (mFrm F M)).g (M.sc.map (frm F))).2.2.2 = 0 := k'.e3
      show _ = prA (socL (d2 T (mFrm F M)).S.so (d2 T (mFrm F M)).g (M.sc.map (frm F))).1 ∧ _ = (socL (d2 T (mFrm F M)).S.so (d2 T (mFrm F M)).g (M.sc.map (frm F))).2.1
      rw [← r2.g] at e2 ⊢
      unfold socL at e1 e2 ⊢
      rw [List.length_map] at e2 ⊢
      by_cases hn : 64 < M.sc.length
      · rw [if_pos hn] at e1; cases e1
      · rw [if_neg hn] at e1 e2 ⊢
        rw [if_neg hn]
        exact all_rel r2.S.so M.sc [] _ _ [] [] [] r2.S.so e1 e2
    refine ⟨⟨r2.S.y, r2.S.i, r2.S.o, r2.S.be, hs.1, r2.S.tb, r2.S.tt, r2.S.od⟩, r2.g, r2.b, ?_, ?_⟩
    · show leftP 6 (leftP 2 _ (socL _ _ _).2.1) _ = leftP 6 (leftP 2 _ (socL _ _ _).2.1) _
      rw [leftP6, leftP6, hs.2, r2.l]
    · show ∀ k : Kp, k.1.1 ≠ 6 → getA (addP 6 (addP 2 _ (socL _ _ _).2.1) _) k = getA (addP 6 (addP 2 _ (socL _ _ _).2.1) _) k
      intro q hq
      rw [addP_oth hq, addP_oth hq, hs.2]
      exact addP_ext _ _ _ r2.ln q hq
  have r4 : RelD (d4 S M) (d4 T (mFrm F M)) := by
    have e : Tx.stepV (d3 S M).S.tb (d3 S M).S.tt (d3 S M).b M.i M.o M.al M.ex M.ba = Tx.stepV (d3 T (mFrm F M)).S.tb (d3 T (mFrm F M)).S.tt (d3 T (mFrm F M)).b (mFrm F M).i (mFrm F M).o (mFrm F M).al (mFrm F M).ex (mFrm F M).ba := by rw [r3.S.tb, r3.S.tt, r3.b]; rfl
    refine ⟨⟨r3.S.y, r3.S.i, r3.S.o, r3.S.be, r3.S.so, ?_, ?_, r3.S.od⟩, r3.g, r3.b, ?_, ?_⟩
    · show (Tx.stepV _ _ _ _ _ _ _ _).1.1 = (Tx.stepV _ _ _ _ _ _ _ _).1.1
      rw [e]
    · show (Tx.stepV _ _ _ _ _ _ _ _).1.2 = (Tx.stepV _ _ _ _ _ _ _ _).1.2
      rw [e]
    · show leftP 3 _ [(taxS, (Tx.stepV _ _ _ _ _ _ _ _).2.1)] = leftP 3 _ [(taxS, (Tx.stepV _ _ _ _ _ _ _ _).2.1)]
      rw [e, r3.l]
    · show ∀ k : Kp, k.1.1 ≠ 6 → getA (addP 3 _ [(taxS, (Tx.stepV _ _ _ _ _ _ _ _).2.1)]) k = getA (addP 3 _ [(taxS, (Tx.stepV _ _ _ _ _ _ _ _).2.1)]) k
      rw [e]
      exact addP_ext _ _ _ r3.ln
  have r5 : RelD (d5 S M) (d5 T (mFrm F M)) := by
    have e : afterL (d4 S M).l M.af = afterL (d4 T (mFrm F M)).l (mFrm F M).af := by rw [r4.l]; rfl
    refine ⟨r4.S, r4.g, r4.b, ?_, ?_⟩
    · show leftP 4 _ (afterL _ _).1 = leftP 4 _ (afterL _ _).1
      rw [e, r4.l]
    · show ∀ k : Kp, k.1.1 ≠ 6 → getA (addP 4 _ (afterL _ _).1) k = getA (addP 4 _ (afterL _ _).1) k
      rw [e]
      exact addP_ext _ _ _ r4.ln
  have r6 : RelD (d6 S M) (d6 T (mFrm F M)) := by
    have e : attL (d5 S M).l (d5 S M).S.od M.od = attL (d5 T (mFrm F M)).l (d5 T (mFrm F M)).S.od (mFrm F M).od := by rw [r5.l, r5.S.od]; rfl
    refine ⟨⟨r5.S.y, r5.S.i, r5.S.o, r5.S.be, r5.S.so, r5.S.tb, r5.S.tt, ?_⟩, r5.g, r5.b, ?_, ?_⟩
    · show (attL _ _ _).2.1 = (attL _ _ _).2.1
      rw [e]
    · show leftP 5 _ (attL _ _ _).1 = leftP 5 _ (attL _ _ _).1
      rw [e, r5.l]
    · show ∀ k : Kp, k.1.1 ≠ 6 → getA (addP 5 _ (attL _ _ _).1) k = getA (addP 5 _ (attL _ _ _).1) k
      rw [e]
      exact addP_ext _ _ _ r5.ln
  refine ⟨by rw [k.st, k'.st]; exact r6.S, by rw [k.yy, k'.yy]; rfl, by rw [k.ii, k'.ii]; rfl, ?_⟩
  rw [(slpR_ok k.sl).2, (slpR_ok k'.sl).2]
  refine slpS_filter fun q ⟨v, hv⟩ => r6.ln q ?_
  have hv2 : decide ((lnP q v).1 ≠ 6) = true := hv
  exact of_decide_eq_true hv2
/-- A slip without the firm's lines. -/
def cutF (x : Slp) : Slp := (x.1, x.2.1, x.2.2.filter fun z => decide (z.1 ≠ 6))
theorem firm_go {F : Int} (S0 T0 : Ste) : ∀ (l : List Mon) (S T : Ste) (out out' : List Slp), RelF S T → out.map cutF = out'.map cutF → (resGo S0 S out l).2.2 = 0 → (resGo T0 T out' (l.map (mFrm F))).2.2 = 0 → (resGo S0 S out l).1.map cutF = (resGo T0 T out' (l.map (mFrm F))).1.map cutF
  | [], S, T, out, out', _, h, _, _ => h
  | M :: r, S, T, out, out', hR, h, h1, h2 => by
    rw [List.map_cons] at h2 ⊢
    rw [resGo_cons] at h1 h2 ⊢
    rw [resGo_cons]
    by_cases a : (stepM S M).2.2 ≠ 0
    · rw [if_pos a] at h1; exact absurd h1 a
    by_cases b : (stepM T (mFrm F M)).2.2 ≠ 0
    · rw [if_pos b] at h2; exact absurd h2 b
    rw [if_neg a] at h1 ⊢
    rw [if_neg b] at h2 ⊢
    generalize hq : stepM S M = q at h1 a ⊢
    generalize hq' : stepM T (mFrm F M) = q' at h2 b ⊢
    obtain ⟨S', ⟨y, i, L⟩, e⟩ := q
    obtain ⟨T', ⟨y', i', L'⟩, e'⟩ := q'
    have e0 : e = 0 := by simpa using a
    have e1 : e' = 0 := by simpa using b
    subst e0 e1
    obtain ⟨g1, rfl, rfl, g2⟩ := firm_step hR hq hq'
    refine firm_go S0 T0 r S' T' _ _ g1 ?_ h1 h2
    rw [List.map_append, List.map_append, h]
    show _ ++ [cutF (y, i, L)] = _ ++ [cutF (y, i, L')]
    unfold cutF
    rw [g2]
theorem firm_fold {F : Int} (l : List Mon) (h1 : (foldM l).2.2 = 0) (h2 : (foldM (l.map (mFrm F))).2.2 = 0) : (foldM l).1.map cutF = (foldM (l.map (mFrm F))).1.map cutF := by
  unfold foldM resM at h1 h2 ⊢
  rw [List.length_map] at h2 ⊢
  by_cases hn : 4096 < l.length
  · rw [if_pos hn] at h1; cases h1
  · rw [if_neg hn] at h1 h2 ⊢
    rw [if_neg hn]
    exact firm_go _ _ l _ _ _ _ ⟨rfl, rfl, rfl, rfl, rfl, rfl, rfl, rfl⟩ rfl h1 h2
/-- A right slip's lines rise by parts, none above 6. -/
theorem slpGo_pw : ∀ (l : List Li) (o : Option Li), slpGo o l = 0 → (∀ b, o = some b → ∀ x ∈ l, b.1 ≤ x.1) ∧ l.Pairwise (fun x y => x.1 ≤ y.1) ∧ ∀ x ∈ l, 0 ≤ x.1 ∧ x.1 ≤ 6
  | [], _, _ => ⟨fun _ _ x hx => (by cases hx), List.Pairwise.nil, fun x hx => (by cases hx)⟩
  | a :: r, o, h => by
    unfold slpGo at h
    by_cases h1 : linE a ≠ 0
    · rw [if_pos h1] at h; exact absurd h h1
    rw [if_neg h1] at h
    have ha : 0 ≤ a.1 ∧ a.1 ≤ 6 := by
      have h2 : linE a = 0 := Decidable.not_not.1 h1
      unfold linE at h2
      split at h2
      · cases h2
      · omega
    have hr : slpGo (some a) r = 0 ∧ ∀ b, o = some b → b.1 ≤ a.1 := by
      cases o with
      | none => exact ⟨h, fun b hb => by cases hb⟩
      | some b =>
        simp only [] at h
        split at h
        · simp at h
        · split at h
          · simp at h
          · rename_i h3
            refine ⟨h, fun c hc => ?_⟩
            cases hc
            unfold lessB at h3
            simp at h3
            omega
    obtain ⟨g1, g2, g3⟩ := slpGo_pw r (some a) hr.1
    refine ⟨fun b hb x hx => ?_, List.pairwise_cons.2 ⟨fun x hx => g1 a rfl x hx, g2⟩, fun x hx => ?_⟩
    · rcases List.mem_cons.1 hx with rfl | hx
      · exact hr.2 b hb
      · have := hr.2 b hb; have := g1 a rfl x hx; omega
    · rcases List.mem_cons.1 hx with rfl | hx
      · exact ha
      · exact g3 x hx
def RiseP (x : Slp) : Prop := x.2.2.Pairwise (fun x y => x.1 ≤ y.1) ∧ (∀ z ∈ x.2.2, 0 ≤ z.1 ∧ z.1 ≤ 6) ∧ x.2.2.length ≤ 448
theorem rise_fold (l : List Mon) : ∀ x ∈ (foldM l).1, RiseP x := fun x hx => by
  have h := (nets_fold l x hx).1
  have hl := (slpE_fit h).1
  unfold slpE at h
  split at h
  · cases h
  split at h
  · cases h
  obtain ⟨_, g2, g3⟩ := slpGo_pw _ _ h
  exact ⟨g2, g3, hl⟩
/-- Lines whose last one is no firm's: none is. -/
theorem rise_cut {L : List Li} {n : Nat} (hp : L.Pairwise fun x y => x.1 ≤ y.1) (hb : ∀ z ∈ L, 0 ≤ z.1 ∧ z.1 ≤ 6) {z : Li} (hn : 0 < n) (hz : L[n - 1]? = some z) (h6 : z.1 ≠ 6) : (L.take n).filter (fun z => decide (z.1 ≠ 6)) = L.take n := by
  refine List.filter_eq_self.2 fun x hx => decide_eq_true ?_
  obtain ⟨j, hj, hx⟩ := List.mem_take_iff_getElem.1 hx
  obtain ⟨hz1, hz2⟩ := List.getElem?_eq_some_iff.1 hz
  have hzb := hb z (List.mem_of_getElem? hz)
  by_cases e : j = n - 1
  · subst e
    rw [← hx, hz2]
    exact h6
  · have := List.pairwise_iff_getElem.1 hp j (n - 1) (by omega) hz1 (by omega)
    rw [hx, hz2] at this
    omega
end Go.Proofs.YtgepbkldgnjpfaaGreatDoor
