/- The account month by month: the day's deeds and moves, and that it is the folding. -/
import Derived.Test.YtkbpdbfldijeeaaDoorRef
namespace Go.Proofs.YtkbpdbfldijeeaaDoor

/-- What month i's first day does: the turn of a year, then what is lost. -/
def evT (yr ca : Int) (i : Nat) (s : Fo) : Fo := if moM i = 1 ∧ yr < yrM yr i then keepV ca (loseV s) else s
def evS (yr ca ex : Int) (i : Nat) (s : Fo) : Fo := if moM i = ex + 1 then loseV (evT yr ca i s) else evT yr ca i s
/-- The moves ahead of a day, and not behind another one. -/
def takeM (un e : Int) : Fo → List Mv → Fo × List Mv
  | s, [] => (s, [])
  | s, x :: M => if x.1 < e ∧ x.1 ≤ un then takeM un e (moveV x.2.1 x.2.2 s) M else (s, x :: M)
/-- k months from month i on. -/
def refR (yr ca ex un : Int) : Nat → Nat → Fo → List Mv → Fo
  | 0, _, s, _ => s
  | k + 1, i, s, M => if un < dM yr i then s else refR yr ca ex un k (i + 1) (takeM un (dM yr (i + 1)) (evS yr ca ex i s) M).1 (takeM un (dM yr (i + 1)) (evS yr ca ex i s) M).2

theorem runO_append (ca ex un : Int) (A B : List (Int × Op)) (s : Fo) : runO ca ex un (A ++ B) s = runO ca ex un B (runO ca ex un A s) := by simp [runO, List.foldl_append]
theorem runO_cons (ca ex un : Int) (x : Int × Op) (B : List (Int × Op)) (s : Fo) : runO ca ex un (x :: B) s = runO ca ex un B (stepO ca ex un s x) := rfl
theorem runO_late {ca ex un : Int} : ∀ (L : List (Int × Op)) (s : Fo), (∀ x ∈ L, un < x.1) → runO ca ex un L s = s
  | [], _, _ => rfl
  | x :: L, s, h => by
    rw [runO_cons]
    have h1 := h x (by simp)
    have : stepO ca ex un s x = s := if_neg (by omega)
    rw [this]
    exact runO_late L s (fun y hy => h y (by simp [hy]))
theorem lose_idle {s : Fo} (h : s.cr = 0) : loseV s = s := by
  obtain ⟨a, b, c, d, e, f⟩ := s
  simp only at h
  subst h
  simp [loseV]
theorem evS_run {yr ca ex un : Int} {i : Nat} {s : Fo} (hd : dM yr i ≤ un) (hc : i < 12 → s.cr = 0) : runO ca ex un (evs yr ex i) s = evS yr ca ex i s := by
  have hm := moM_bd i
  by_cases hi : i < 12
  · have e1 : evT yr ca i s = s := if_neg (by unfold yrM; omega)
    have e2 : evs yr ex i = [] := if_pos hi
    unfold evS
    rw [e1, e2, lose_idle (hc hi)]
    split <;> rfl
  · have hy : yr < yrM yr i := by unfold yrM; omega
    unfold evs evS
    rw [if_neg hi]
    by_cases h1 : moM i = 1
    · have e1 : evT yr ca i s = keepV ca (loseV s) := if_pos ⟨h1, hy⟩
      have e2 : stepO ca ex un s (dM yr i, Op.turn) = turnV ca ex s := if_pos hd
      rw [if_pos h1, if_neg (by omega), List.append_nil, runO_cons, e1, e2]
      unfold turnV
      by_cases hx : ex = 0
      · rw [if_pos hx, if_pos (by omega)]; rfl
      · rw [if_neg hx, if_neg (by omega)]; rfl
    · have e1 : evT yr ca i s = s := if_neg (fun h => h1 h.1)
      rw [if_neg h1, List.nil_append, e1]
      by_cases hx : moM i = ex + 1
      · rw [if_pos ⟨by omega, by omega, hx⟩, if_pos hx, runO_cons]
        exact if_pos hd
      · rw [if_neg (fun h => hx h.2.2), if_neg hx]; rfl
/-- Moves that fit, in order of days. -/
structure Rt (M : List Mv) : Prop where
  fit : ∀ x ∈ M, ¬ unfit x
  ord : M.Pairwise fun x y => x.1 ≤ y.1
theorem Rt.tail {x : Mv} {M : List Mv} (h : Rt (x :: M)) : Rt M := ⟨fun y hy => h.fit y (by simp [hy]), (List.pairwise_cons.1 h.ord).2⟩
theorem takeM_split (un e : Int) : ∀ (M : List Mv) (s : Fo), Rt M → ∃ A B, M = A ++ B ∧ (takeM un e s M).2 = B ∧ (∀ ca ex, (takeM un e s M).1 = runO ca ex un (moveOps A) s) ∧ (∀ x ∈ A, x.1 < e ∧ x.1 ≤ un) ∧ (∀ x ∈ B, e ≤ x.1 ∨ un < x.1)
  | [], s, _ => ⟨[], [], rfl, rfl, (fun _ _ => rfl), (fun x hx => by cases hx), (fun x hx => by cases hx)⟩
  | x :: M, s, h => by
    unfold takeM
    by_cases hx : x.1 < e ∧ x.1 ≤ un
    · rw [if_pos hx]
      obtain ⟨A, B, h1, h2, h3, h4, h5⟩ := takeM_split un e M (moveV x.2.1 x.2.2 s) h.tail
      refine ⟨x :: A, B, by rw [h1]; rfl, h2, fun ca ex => ?_, fun y hy => ?_, h5⟩
      · rw [h3 ca ex]
        have : stepO ca ex un s (x.1, Op.move x.2.1 x.2.2) = moveV x.2.1 x.2.2 s := if_pos hx.2
        show _ = runO ca ex un ((x.1, Op.move x.2.1 x.2.2) :: moveOps A) s
        rw [runO_cons, this]
      · rcases List.mem_cons.1 hy with rfl | hy
        · exact hx
        · exact h4 y hy
    · rw [if_neg hx]
      refine ⟨[], x :: M, rfl, rfl, (fun _ _ => rfl), (fun y hy => by cases hy), fun y hy => ?_⟩
      have h1 : x.1 ≤ y.1 := by
        rcases List.mem_cons.1 hy with rfl | hy
        · exact Int.le_refl _
        · exact (List.pairwise_cons.1 h.ord).1 y hy
      omega
theorem takeM_cr {un e : Int} : ∀ (M : List Mv) (s : Fo), Rt M → s.cr = 0 → (takeM un e s M).1.cr = 0
  | [], s, _, h0 => h0
  | x :: M, s, h, h0 => by
    unfold takeM
    split
    · refine takeM_cr M _ h.tail ?_
      have := h.fit x (by simp)
      unfold unfit at this
      simp only [moveV, h0]; omega
    · exact h0
theorem evS_cr {yr ca ex : Int} {i : Nat} {s : Fo} (hi : i < 12) (h : s.cr = 0) : (evS yr ca ex i s).cr = 0 := by
  have e1 : evT yr ca i s = s := if_neg (by unfold yrM; omega)
  unfold evS
  rw [e1]
  split
  · rfl
  · exact h
theorem moveOps_append (A B : List Mv) : moveOps (A ++ B) = moveOps A ++ moveOps B := by simp [moveOps]
theorem mem_moveOps {M : List Mv} {x : Int × Op} (h : x ∈ moveOps M) : ∃ y ∈ M, x = (y.1, Op.move y.2.1 y.2.2) := by
  unfold moveOps at h
  obtain ⟨y, hy, rfl⟩ := List.mem_map.1 h
  exact ⟨y, hy, rfl⟩
theorem refR_run {yr ca ex un : Int} : ∀ (k i : Nat) (s : Fo) (M : List Mv), Rt M → (∀ x ∈ M, dM yr i ≤ x.1 ∧ x.1 < dM yr (i + k)) → (i < 12 → s.cr = 0) →
    runO ca ex un (mg ltO (Tm yr ex i k) (moveOps M)) s = refR yr ca ex un k i s M
  | 0, i, s, M, hr, hb, _ => by
    have : M = [] := by
      cases M with
      | nil => rfl
      | cons x M => have := hb x (by simp); simp at this; omega
    subst this
    simp [Tm, moveOps, runO, refR]
  | k + 1, i, s, M, hr, hb, hc => by
    unfold refR
    by_cases hu : un < dM yr i
    · rw [if_pos hu]
      refine runO_late _ _ (fun x hx => ?_)
      rcases mg_mem.1 hx with h | h
      · have := Tm_ge _ _ x h; omega
      · obtain ⟨y, hy, rfl⟩ := mem_moveOps h
        have := hb y hy
        simp only; omega
    · rw [if_neg hu, Tm_succ]
      have e1 := mg_split (lt := ltO) (evs yr ex i) (Tm yr ex (i + 1) k) [] (moveOps M) (fun x hx y hy => by
        obtain ⟨z, hz, rfl⟩ := mem_moveOps hy
        have h1 := evs_day x hx
        have h2 := hb z hz
        simp [ltO]; omega) (fun y hy => by cases hy)
      simp only [List.nil_append, nil_mg] at e1
      rw [e1, runO_append, evS_run (by omega) hc]
      obtain ⟨A, B, hM, hB, hA, ha, hbb⟩ := takeM_split un (dM yr (i + 1)) M (evS yr ca ex i s) hr
      rw [hB, hA ca ex]
      have hRB : Rt B := by
        have := hr
        rw [hM] at this
        exact ⟨fun x hx => this.fit x (by simp [hx]), (List.pairwise_append.1 this.ord).2.1⟩
      have hcr : i + 1 < 12 → (runO ca ex un (moveOps A) (evS yr ca ex i s)).cr = 0 := fun hi => by
        rw [← hA ca ex]; exact takeM_cr M _ hr (evS_cr (by omega) (hc (by omega)))
      rw [hM, moveOps_append]
      -- those of A are ahead of all that the later months bring
      have e2 := mg_split (lt := ltO) [] (Tm yr ex (i + 1) k) (moveOps A) (moveOps B) (fun x hx => by cases hx) (fun y hy x hx => by
        obtain ⟨z, hz, rfl⟩ := mem_moveOps hy
        have h1 := ha z hz
        have h2 := Tm_ge _ _ x hx
        simp [ltO]; omega)
      simp only [List.nil_append, mg_nil] at e2
      rw [e2, runO_append]
      -- what of B lies ahead of the next month lies behind the last day
      by_cases hlate : ∀ x ∈ B, un < x.1
      · -- nothing of B counts
        have key : ∀ (j q : Nat) (s' : Fo) (B' : List Mv), (∀ x ∈ B', un < x.1) → (q < 12 → s'.cr = 0) → runO ca ex un (mg ltO (Tm yr ex q j) (moveOps B')) s' = refR yr ca ex un j q s' B' := by
          intro j
          induction j with
          | zero =>
            intro q s' B' hB' _
            refine runO_late _ _ (fun x hx => ?_)
            rcases mg_mem.1 hx with h | h
            · simp [Tm] at h
            · obtain ⟨y, hy, rfl⟩ := mem_moveOps h; exact hB' y hy
          | succ j ih =>
            intro q s' B' hB' hc'
            unfold refR
            by_cases hq : un < dM yr q
            · rw [if_pos hq]
              refine runO_late _ _ (fun x hx => ?_)
              rcases mg_mem.1 hx with h | h
              · have := Tm_ge _ _ x h; omega
              · obtain ⟨y, hy, rfl⟩ := mem_moveOps h; exact hB' y hy
            · rw [if_neg hq, Tm_succ]
              have e3 := mg_split (lt := ltO) (evs yr ex q) (Tm yr ex (q + 1) j) [] (moveOps B') (fun x hx y hy => by
                obtain ⟨z, hz, rfl⟩ := mem_moveOps hy
                have h1 := evs_day x hx
                have h2 := hB' z hz
                simp [ltO]; omega) (fun y hy => by cases hy)
              simp only [List.nil_append, nil_mg] at e3
              have e4 : takeM un (dM yr (q + 1)) (evS yr ca ex q s') B' = (evS yr ca ex q s', B') := by
                cases B' with
                | nil => rfl
                | cons x B' => unfold takeM; rw [if_neg (by have := hB' x (by simp); omega)]
              rw [e3, runO_append, evS_run (by omega) hc', e4]
              exact ih (q + 1) _ _ hB' (fun h => evS_cr (by omega) (hc' (by omega)))
        exact key k (i + 1) _ B hlate hcr
      · refine refR_run k (i + 1) _ B hRB (fun x hx => ⟨?_, ?_⟩) hcr
        · -- B's first one is not behind the last day, so it is not ahead of the month's end
          obtain ⟨z, hz, hzu⟩ : ∃ z ∈ B, ¬ un < z.1 := by
            apply Classical.byContradiction
            intro h
            exact hlate (fun x hx => Classical.byContradiction fun h' => h ⟨x, hx, h'⟩)
          cases B with
          | nil => cases hz
          | cons b B =>
            have h1 := (List.pairwise_cons.1 hRB.ord).1
            have hbz : b.1 ≤ z.1 := by
              rcases List.mem_cons.1 hz with rfl | hz
              · exact Int.le_refl _
              · exact h1 z hz
            have hbx : b.1 ≤ x.1 := by
              rcases List.mem_cons.1 hx with rfl | hx
              · exact Int.le_refl _
              · exact h1 x hx
            have := hbb b (by simp)
            omega
        · have := (hb x (by rw [hM]; simp [hx])).2
          rwa [show i + (k + 1) = i + 1 + k by omega] at this
/-- What was checked is right. -/
theorem rt_of {yr ca ex un : Int} {l : List Mv} (h : chkV yr ca ex un l = 0) : Rt l ∧ ∀ x ∈ l, Cal.st yr - 25567 ≤ x.1 ∧ x.1 ≤ 84005 := by
  obtain ⟨hp, hz⟩ := chkV_zero h
  have hat : ∀ (i : Nat) (x : Mv), l[i]? = some x → ¬ early yr x.1 ∧ ¬ unfit x ∧ (0 < i → dayOf l (i - 1) ≤ x.1) := fun i x hx => badM_zero hx (hz i (List.getElem?_eq_some_iff.1 hx).1)
  refine ⟨⟨fun x hx => ?_, ?_⟩, fun x hx => ?_⟩
  · obtain ⟨i, hi⟩ := List.mem_iff_getElem?.1 hx
    exact (hat i x hi).2.1
  · rw [List.pairwise_iff_getElem]
    have step : ∀ (d i : Nat) (hi : i < l.length) (hj : i + d < l.length), l[i].1 ≤ l[i + d].1 := by
      intro d
      induction d with
      | zero => intro i _ _; exact Int.le_refl _
      | succ d ih =>
        intro i hi hj
        have h1 := ih i hi (by omega)
        have h2 := (hat (i + (d + 1)) _ (List.getElem?_eq_getElem hj)).2.2 (by omega)
        rw [show i + (d + 1) - 1 = i + d by omega, dayOf_at (List.getElem?_eq_getElem (show i + d < l.length by omega))] at h2
        exact Int.le_trans h1 h2
    intro i j hi hj hij
    have := step (j - i) i hi (by omega)
    have e : i + (j - i) = j := by omega
    simpa [e] using this
  · obtain ⟨i, hi⟩ := List.mem_iff_getElem?.1 hx
    have := (hat i x hi).1
    unfold early at this
    omega
theorem ss_of_srt {α : Type} {lt : α → α → Bool} : ∀ (l : List α), Srt lt l → ss lt l = l
  | [], _ => rfl
  | x :: l, h => by
    have h1 := List.pairwise_cons.1 h
    show mg lt [x] (ss lt l) = x :: l
    rw [ss_of_srt l h1.2]
    cases l with
    | nil => simp
    | cons y l => rw [mg_cons, if_neg (by simp [h1.1 y (by simp)])]; simp
theorem ltO_swk : Swk ltO := ⟨fun x y h => by simp [ltO] at h ⊢; omega, fun x y z h k => by simp [ltO] at h k ⊢; omega⟩
/-- The folding, month by month. -/
theorem foldF_eq {yr ca ex un : Int} {l : List Mv} (h : chkV yr ca ex un l = 0) : foldF yr ca ex un l = refR yr ca ex un (12 * (2200 - yr).toNat) 0 fo0 l := by
  obtain ⟨hr, hb⟩ := rt_of h
  have hp := (chkV_zero h).1.plan
  unfold noPlan at hp
  unfold foldF allOps
  have e : (2200 - yr).toNat = (2199 - yr).toNat + 1 := by omega
  rw [← refR_run _ 0 fo0 l hr (fun x hx => ?_) (fun _ => rfl), e, Tm_all, ← mg_ss ltO_swk]
  · congr 2
    · refine ss_of_srt _ ?_
      rw [← Tm_all]
      exact Tm_srt _ _ _ _
    · refine ss_of_srt _ ?_
      unfold moveOps Srt
      rw [List.pairwise_map]
      exact hr.ord.imp (fun {a b} hab => by simp [ltO]; omega)
  · have h1 := hb x hx
    constructor
    · unfold dM yrM moM; simp [Cal.cum_1]; omega
    · have e1 : yrM yr (0 + 12 * (2200 - yr).toNat) = 2200 := by unfold yrM; omega
      have e2 : moM (0 + 12 * (2200 - yr).toNat) = 1 := by unfold moM; omega
      unfold dM
      rw [e1, e2, Cal.cum_1, Cal.st_2200]
      omega
end Go.Proofs.YtkbpdbfldijeeaaDoor
