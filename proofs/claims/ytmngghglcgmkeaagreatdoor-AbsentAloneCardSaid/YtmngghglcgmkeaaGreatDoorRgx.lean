import Derived.Test.YtmngghglcgmkeaaGreatDoorRegs
/- wp_region_umk: a drawn region whose operations yield values, make blocks of one cell and store into them, and may use slots up. Printed by gen/mkrgx.py out of XRegs. -/
namespace Go.Proofs.YtmngghglcgmkeaaGreatDoor
open Go.RowKit

structure RInvX (ops : Array Oper) (SP : Nat → Value → World → Prop) (ks : List (Nat × Nat)) (ms : List Mk) (a0 : Act) (w0 : World) (listed : Array Bool) (a : Act) (w : World) : Prop where
  bel : Below w0.heap.size w0 w
  size : a.tmps.size = a0.tmps.size
  defs : a.defers = a0.defers
  kp : ∀ t : Nat, noDstB ops t = true → a.tmps.getD t undef = a0.tmps.getD t undef
  ini : ∀ t : Nat, (∀ (i : Nat) (o : Oper), ops[i]? = some o → o.dst = some t → listed.getD i false = false) → a.tmps.getD t undef = a0.tmps.getD t undef
  cl : ∀ (i : Nat) (o : Oper), ops[i]? = some o → listed.getD i false = true → ∀ e ∈ o.after, Region.binds .any e = true → listed.getD e.on false = true
  sp : ∀ t : Nat, (∀ (i : Nat) (o : Oper), ops[i]? = some o → o.dst = some t → listed.getD i false = true) → (∀ j, (t, j) ∈ ks → listed.getD j false = false) → SP t (a.tmps.getD t undef) w
  al : ∀ p ∈ ms, listed.getD p.ia false = true → ∃ b, a.tmps.getD p.d undef = .pointer (some ⟨b, 0, none⟩) ∧ w0.heap.size ≤ b ∧ b < w.heap.size ∧ ∃ y, Bk b p.T #[y] w ∧ (listed.getD p.is false = true → a.tmps.getD p.s undef = .agg #[y])
  df : ∀ p ∈ ms, ∀ q ∈ ms, p.d ≠ q.d → listed.getD p.ia false = true → listed.getD q.ia false = true → a.tmps.getD p.d undef ≠ a.tmps.getD q.d undef
/-- All operations into slot t wait for operation i. -/
def lateB (ops : Array Oper) (i t : Nat) : Bool := ops.toList.all fun o => !(o.dst == some t) || o.after.any fun e => Region.binds .any e && e.on == i
/-- What is asked of an operation that may use slots up. -/
def OpOkM (P : Program) (ops : Array Oper) (Q : Exit → Act → World → Prop) (SP : Nat → Value → World → Prop) (ks : List (Nat × Nat)) (ms : List Mk) (a0 : Act) (w0 : World) (i : Nat) (o : Oper) : Prop :=
  ∀ (a : Act) (w : World), Below w0.heap.size w0 w → a.tmps.size = a0.tmps.size → a.defers = a0.defers → (∀ t, lateB ops i t = true → a.tmps.getD t undef = a0.tmps.getD t undef) → (∀ t, waitsB .any ops o t = true → (∀ j, (t, j) ∈ ks → j = i ∨ edgeB ops j i = true) → SP t (a.tmps.getD t undef) w) →
    Region.wanted o (yielded ops a.tmps) = true ∧ o.wp P a w (fun a' w' => ∃ v, a' = a.put o.dst v ∧ Below w0.heap.size w0 w' ∧ w.heap.size ≤ w'.heap.size ∧ (∀ t, o.dst ≠ some t → earlyB ops i t = true → (t, i) ∉ ks → SP t (a.tmps.getD t undef) w → SP t (a.tmps.getD t undef) w') ∧ (∀ p ∈ ms, ∀ b y, w0.heap.size ≤ b → Bk b p.T #[y] w → Bk b p.T #[y] w') ∧ ∀ d, o.dst = some d → SP d v w') Q
theorem bk_lt {b : Nat} {T : TypeId} {y : Array Value} {w w' : World} (h : Bk b T y w) (hb : Below w.heap.size w w') : Bk b T y w' := (hb.block b h.lt).trans h
theorem opOkM_n {P : Program} {ops : Array Oper} {Q : Exit → Act → World → Prop} {SP : Nat → Value → World → Prop} {ks : List (Nat × Nat)} {ms : List Mk} {a0 : Act} {w0 : World} {i : Nat} {o : Oper} (hst : ∀ t v w w', SP t v w → Below w.heap.size w w' → SP t v w') (h : OpOk P .any ops Q SP a0 w0 o) (hk : ks.all (fun p => !(waitsB .any ops o p.1) || p.2 == i || edgeB ops p.2 i) = true) : OpOkM P ops Q SP ks ms a0 w0 i o := by
  intro a w hb hs hd _ hsp
  obtain ⟨hw, hwp⟩ := h a w hb hs hd fun t ht => hsp t ht fun j hj => by
    rw [List.all_eq_true] at hk
    have := hk (t, j) hj
    simp only [ht, Bool.not_true, Bool.false_or, Bool.or_eq_true, beq_iff_eq] at this
    exact this
  refine ⟨hw, Oper.wp_mono (fun a' w' => ?_) hwp⟩
  rintro ⟨v, rfl, hb2, h3⟩
  exact ⟨v, rfl, bTrans hb hb2, hb2.size, fun t _ _ _ h4 => hst _ _ _ _ h4 hb2, fun _ _ _ _ _ h4 => bk_lt h4 hb2, h3⟩
def KindX (P : Program) (ops : Array Oper) (Q : Exit → Act → World → Prop) (SP : Nat → Value → World → Prop) (ks : List (Nat × Nat)) (ms : List Mk) (a0 : Act) (w0 : World) (i : Nat) (o : Oper) : Prop :=
  (OpOkM P ops Q SP ks ms a0 w0 i o ∧ ∀ p ∈ ms, p.ia ≠ i ∧ p.is ≠ i ∧ o.dst ≠ some p.d) ∨
  (∃ p ∈ ms, ∃ z, p.ia = i ∧ o.dst = some p.d ∧ o.guard = none ∧ (∀ q ∈ ms, q.ia = i → q.d = p.d) ∧ (∀ q ∈ ms, q.is ≠ i ∧ (q.d = p.d → q = p)) ∧ ∀ (a : Act) (w : World), (execOp a.eval o).run P w = .ok (.value (.pointer (some ⟨w.heap.size, 0, none⟩))) (w.alloc (.cells #[z] p.T))) ∨
  (∃ p ∈ ms, p.is = i ∧ o.dst = none ∧ o.guard = none ∧ waitsB .any ops o p.d = true ∧ waitsB .any ops o p.s = true ∧ (o.after.any fun e => Region.binds .any e && e.on == p.ia) = true ∧ (∀ q ∈ ms, q.ia ≠ i ∧ (q.is = i → q = p) ∧ (q.d = p.d → q = p)) ∧ (∀ j, (p.s, j) ∉ ks) ∧ (∀ v w, SP p.s v w → ∃ A l c, v = .agg #[.slice A l c]) ∧
    ∀ (a : Act) (w : World) (b : Nat) (y : Value) (A : Option Addr) (l c : Nat), a.eval (.tmp p.d) = .pointer (some ⟨b, 0, none⟩) → a.eval (.tmp p.s) = .agg #[.slice A l c] → Bk b p.T #[y] w → (execOp a.eval o).run P w = .ok .skip (w.setCell ⟨b, 0, none⟩ (.slice A l c)))
section
variable {P : Program} {ops : Array Oper} {Q : Exit → Act → World → Prop} {SP : Nat → Value → World → Prop} {ks : List (Nat × Nat)} {ms : List Mk} {a0 : Act} {w0 : World}
theorem rinvX_op (hst : ∀ t v w w', SP t v w → Below w.heap.size w w' → SP t v w') (hss : ∀ p ∈ ms, ∀ t v w b y x, w0.heap.size ≤ b → Bk b p.T #[y] w → SP t v w → SP t v (w.setCell ⟨b, 0, none⟩ x)) (hsd : ∀ p ∈ ms, ∀ v w, SP p.d v w)
    (hms : ∀ p ∈ ms, ∃ os, ops[p.is]? = some os ∧ waitsB .any ops os p.s = true ∧ (os.after.any fun e => Region.binds .any e && e.on == p.ia) = true)
    (hsz : ∀ (i : Nat) (o : Oper) d, ops[i]? = some o → o.dst = some d → d < a0.tmps.size)
    (i : Nat) (o : Oper) (hoi : ops[i]? = some o) (hk : KindX P ops Q SP ks ms a0 w0 i o) (listed : Array Bool) (a : Act) (w : World) (hlsz : listed.size = ops.size) (hli : listed.getD i false = false) (haft : ∀ e ∈ o.after, Region.binds .any e = true → listed.getD e.on false = true) (hI : RInvX ops SP ks ms a0 w0 listed a w) :
      (Region.wanted o (yielded ops a.tmps) = true ∧ o.wp P a w (fun a' w' => RInvX ops SP ks ms a0 w0 (listed.setIfInBounds i true) a' w') Q) ∨ (Region.wanted o (yielded ops a.tmps) = false ∧ RInvX ops SP ks ms a0 w0 (listed.setIfInBounds i true) (a.put o.dst undef) w) := by
  have hil : i < ops.size := (Array.getElem?_eq_some_iff.1 hoi).1
  have hcl : ∀ (j : Nat) (oj : Oper), ops[j]? = some oj → (listed.setIfInBounds i true).getD j false = true → ∀ e ∈ oj.after, Region.binds .any e = true → (listed.setIfInBounds i true).getD e.on false = true := by
    intro j oj hj hlj e he hb
    have hup : ∀ m : Nat, listed.getD m false = true → (listed.setIfInBounds i true).getD m false = true := by
      intro m hm
      by_cases him : i = m
      · subst him
        rw [hli] at hm; cases hm
      · rw [getD_set_ne false him]; exact hm
    rcases set_get hlj with rfl | h
    · rw [hoi] at hj
      injection hj with hj
      subst hj
      exact hup _ (haft e he hb)
    · exact hup _ (hI.cl j oj hj h e he hb)
  have hedge : ∀ (j : Nat) (oj : Oper), ops[j]? = some oj → (oj.after.any fun e => Region.binds .any e && e.on == i) = true → listed.getD j false = false := by
    intro j oj hj hany
    rw [← Bool.not_eq_true]
    intro hlj
    rw [Array.any_eq_true] at hany
    obtain ⟨x, hx, he2⟩ := hany
    rw [Bool.and_eq_true, beq_iff_eq] at he2
    have := hI.cl j oj hj hlj _ (Array.getElem_mem hx) he2.1
    rw [he2.2, hli] at this
    cases this
  have hkd : ∀ t : Nat, (∀ j, (t, j) ∈ ks → (listed.setIfInBounds i true).getD j false = false) → ∀ j, (t, j) ∈ ks → listed.getD j false = false := by
    intro t hkt j hj
    have := hkt j hj
    rw [← Bool.not_eq_true]
    intro hlj
    by_cases hij : i = j
    · subst hij; rw [hli] at hlj; cases hlj
    · rw [getD_set_ne false hij, hlj] at this
      cases this
  have hini : ∀ (v : Value) (t : Nat), (∀ (j : Nat) (oj : Oper), ops[j]? = some oj → oj.dst = some t → (listed.setIfInBounds i true).getD j false = false) → (a.put o.dst v).tmps.getD t undef = a0.tmps.getD t undef := by
    intro v t ht
    have hnd : o.dst ≠ some t := fun hd => by
      have := ht i o hoi hd
      have hin : i < listed.size := by omega
      simp [Array.getD, hin] at this
    have h2 := hI.ini t fun j oj hj hdj => by
      have h3 := ht j oj hj hdj
      rw [← Bool.not_eq_true]
      intro hlj
      by_cases hij : i = j
      · subst hij; rw [hli] at hlj; cases hlj
      · rw [getD_set_ne false hij, hlj] at h3
        cases h3
    rw [← h2]
    cases hd2 : o.dst with
    | none => rfl
    | some d => exact put_get (fun e => hnd (by rw [hd2, e]))
  have hsp' : ∀ (t : Nat), o.dst ≠ some t → (∀ (j : Nat) (oj : Oper), ops[j]? = some oj → oj.dst = some t → (listed.setIfInBounds i true).getD j false = true) → (∀ j, (t, j) ∈ ks → (listed.setIfInBounds i true).getD j false = false) → SP t (a.tmps.getD t undef) w := by
    intro t hd ht hkt
    refine hI.sp t (fun j oj hj hdj => ?_) (hkd t hkt)
    rcases set_get (ht j oj hj hdj) with rfl | h
    · rw [hoi] at hj
      injection hj with hj
      rw [hj] at hd
      exact absurd hdj hd
    · exact h
  have hnst : ∀ q ∈ ms, o.dst = some q.s → listed.getD q.is false = false := by
    intro q hq hd
    obtain ⟨os, hos, hws, _⟩ := hms q hq
    rw [← Bool.not_eq_true]
    intro h
    have := waits_all hws (hI.cl q.is os hos h) i o hoi hd
    rw [hli] at this; cases this
  rcases hk with ⟨hn, hne⟩ | ⟨p, hp, z, hpi, hd, hg, hq1, hq2, hrun⟩ | ⟨p, hp, hpi, hd, hg, hwd, hws, hwa, hq1, hpk, hagg, hrun⟩
  · obtain ⟨hw, hwp⟩ := hn a w hI.bel hI.size hI.defs (fun t ht => hI.ini t fun j oj hj hdj => by
      unfold lateB at ht
      rw [List.all_eq_true] at ht
      have := ht oj (by have := Array.mem_of_getElem? hj; simpa using this)
      rw [hdj] at this
      exact hedge j oj hj (by simpa using this)) fun t ht hkt => hI.sp t (waits_all ht haft) fun j hj => by
      rcases hkt j hj with rfl | h
      · exact hli
      · unfold edgeB at h
        cases hoj : ops[j]? with
        | none => rw [hoj] at h; cases h
        | some oj => rw [hoj] at h; exact hedge j oj hoj h
    refine .inl ⟨hw, Oper.wp_mono (fun a' w' => ?_) hwp⟩
    rintro ⟨v, rfl, hb, hbs, hkeep, hkb, hs⟩
    have hgt : ∀ t : Nat, o.dst ≠ some t → (a.put o.dst v).tmps.getD t undef = a.tmps.getD t undef := by
      intro t ht
      cases hd2 : o.dst with
      | none => rfl
      | some d => exact put_get (fun e => ht (by rw [hd2, e]))
    refine ⟨hb, ?_, ?_, fun t ht => ?_, hini v, hcl, fun t ht hkt => ?_, fun q hq hlq => ?_, fun q hq r hr hqr hlq hlr => ?_⟩
    · rw [← hI.size]; unfold Act.put; split <;> simp
    · rw [← hI.defs]; unfold Act.put; split <;> rfl
    · rw [hgt t (fun hd => noDst_ne ht hoi hd rfl)]; exact hI.kp t ht
    · by_cases hd : o.dst = some t
      · rw [hd, put_here (by rw [hI.size]; exact hsz i o t hoi hd)]
        exact hs t hd
      · rw [hgt t hd]
        have hall : ∀ (j : Nat) (oj : Oper), ops[j]? = some oj → oj.dst = some t → listed.getD j false = true := by
          intro j oj hj hdj
          rcases set_get (ht j oj hj hdj) with rfl | h
          · rw [hoi] at hj
            injection hj with hj
            rw [hj] at hd
            exact absurd hdj hd
          · exact h
        have hin : i < listed.size := by omega
        refine hkeep t hd ?_ (fun hmem => ?_) (hsp' t hd ht hkt)
        · unfold earlyB
          rw [List.all_eq_true]
          intro oj hoj
          obtain ⟨j, hj⟩ := List.getElem?_of_mem hoj
          rw [Array.getElem?_toList] at hj
          by_cases hdj : oj.dst = some t
          · have h1 := hall j oj hj hdj
            cases hany : oj.after.any fun e => Region.binds .any e && e.on == i with
            | true => rw [hedge j oj hj hany] at h1; cases h1
            | false => simp
          · simp [hdj]
        · have := hkt i hmem
          simp [Array.getD, hin] at this
    · have hlq2 : listed.getD q.ia false = true := by
        rcases set_get hlq with h | h
        · exact absurd h (hne q hq).1
        · exact h
      obtain ⟨b, h1, h2, h3, y, h4, h5⟩ := hI.al q hq hlq2
      refine ⟨b, by rw [hgt _ (hne q hq).2.2]; exact h1, h2, Nat.lt_of_lt_of_le h3 hbs, y, hkb q hq b y h2 h4, fun hl => ?_⟩
      have hl2 : listed.getD q.is false = true := by
        rcases set_get hl with h | h
        · exact absurd h (hne q hq).2.1
        · exact h
      rw [hgt _ (fun h => by rw [hnst q hq h] at hl2; cases hl2)]
      exact h5 hl2
    · have hl1 : listed.getD q.ia false = true := (set_get hlq).resolve_left (hne q hq).1
      have hl2 : listed.getD r.ia false = true := (set_get hlr).resolve_left (hne r hr).1
      rw [hgt _ (hne q hq).2.2, hgt _ (hne r hr).2.2]
      exact hI.df q hq r hr hqr hl1 hl2
  · refine .inl ⟨by simp [Region.wanted, hg], ?_⟩
    unfold Oper.wp
    rw [hrun a w]
    show RInvX ops SP ks ms a0 w0 (listed.setIfInBounds i true) (a.put o.dst _) _
    have hb := bAlloc w (.cells #[z] p.T)
    have hnew : Bk w.heap.size p.T #[z] (w.alloc (.cells #[z] p.T)) := Bk.new _ _ _
    have hlt := hnew.lt
    rw [hd]
    have hps : p.d < a.tmps.size := by rw [hI.size]; exact hsz i o p.d hoi hd
    refine ⟨bTrans hI.bel hb, ?_, ?_, fun t ht => ?_, fun t ht => by have := hini (.pointer (some ⟨w.heap.size, 0, none⟩)) t ht; rw [hd] at this; exact this, hcl, fun t ht hkt => ?_, fun q hq hlq => ?_, fun q hq r hr hqr hlq hlr => ?_⟩
    · rw [← hI.size]; simp [Act.put]
    · rw [← hI.defs]; rfl
    · rw [put_get (noDst_ne ht hoi hd)]; exact hI.kp t ht
    · by_cases htd : t = p.d
      · subst htd
        exact hsd p hp _ _
      · rw [put_get htd]
        exact hst _ _ _ _ (hsp' t (by rw [hd]; intro h; injection h with h; exact htd h.symm) ht hkt) hb
    · by_cases hqd : q.d = p.d
      · obtain rfl := (hq2 q hq).2 hqd
        refine ⟨w.heap.size, put_here hps, hI.bel.size, hlt, z, hnew, fun hl => ?_⟩
        exfalso
        rcases set_get hl with h | h
        · exact (hq2 q hq).1 h
        · obtain ⟨os, hos, hws, hwa⟩ := hms q hq
          have h6 := hI.cl q.is os hos h
          rw [Array.any_eq_true] at hwa
          obtain ⟨x, hx, he2⟩ := hwa
          rw [Bool.and_eq_true, beq_iff_eq] at he2
          have := h6 _ (Array.getElem_mem hx) he2.1
          rw [he2.2, hpi, hli] at this
          cases this
      · have hlq2 : listed.getD q.ia false = true := by
          rcases set_get hlq with h | h
          · exact absurd (hq1 q hq h) hqd
          · exact h
        obtain ⟨b, h1, h2, h3, y, h4, h5⟩ := hI.al q hq hlq2
        refine ⟨b, by rw [put_get hqd]; exact h1, h2, Nat.lt_of_lt_of_le h3 hb.size, y, (hb.block b h3).trans h4, fun hl => ?_⟩
        have hl2 : listed.getD q.is false = true := by
          rcases set_get hl with h | h
          · exact absurd h (hq2 q hq).1
          · exact h
        rw [put_get (fun h => by rw [hnst q hq (by rw [hd, h])] at hl2; cases hl2)]
        exact h5 hl2
    · have hfar : ∀ r ∈ ms, r.d ≠ p.d → (listed.setIfInBounds i true).getD r.ia false = true → a.tmps.getD r.d undef ≠ .pointer (some ⟨w.heap.size, 0, none⟩) := by
        intro r hr hrd hlr he
        have hlr2 : listed.getD r.ia false = true := by
          rcases set_get hlr with h | h
          · exact absurd (hq1 r hr h) hrd
          · exact h
        obtain ⟨b, h1, _, h3, _⟩ := hI.al r hr hlr2
        rw [h1] at he
        injection he with he
        injection he with he
        injection he with he
        omega
      by_cases hqd : q.d = p.d
      · have hrd : r.d ≠ p.d := fun h => hqr (hqd.trans h.symm)
        rw [hqd, put_here hps, put_get hrd]
        exact (hfar r hr hrd hlr).symm
      · by_cases hrd : r.d = p.d
        · rw [hrd, put_here hps, put_get hqd]
          exact hfar q hq hqd hlq
        · have hl1 : listed.getD q.ia false = true := (set_get hlq).resolve_left fun h => hqd (hq1 q hq h)
          have hl2 : listed.getD r.ia false = true := (set_get hlr).resolve_left fun h => hrd (hq1 r hr h)
          rw [put_get hqd, put_get hrd]
          exact hI.df q hq r hr hqr hl1 hl2
  · refine .inl ⟨by simp [Region.wanted, hg], ?_⟩
    have hpa : listed.getD p.ia false = true := by
      rw [Array.any_eq_true] at hwa
      obtain ⟨x, hx, he2⟩ := hwa
      rw [Bool.and_eq_true, beq_iff_eq] at he2
      rw [← he2.2]
      exact haft _ (Array.getElem_mem hx) he2.1
    obtain ⟨b, h1, h2, h3, y, h4, _⟩ := hI.al p hp hpa
    obtain ⟨xA, xl, xc, hx⟩ := hagg _ _ (hI.sp p.s (waits_all hws haft) fun j hj => absurd hj (hpk j))
    have hr := hrun a w b y xA xl xc h1 hx h4
    obtain ⟨x, hxe⟩ : ∃ x, Value.slice xA xl xc = x := ⟨_, rfl⟩
    rw [hxe] at hx hr
    unfold Oper.wp
    rw [hr]
    show RInvX ops SP ks ms a0 w0 (listed.setIfInBounds i true) (a.put o.dst undef) _
    rw [hd]
    show RInvX ops SP ks ms a0 w0 (listed.setIfInBounds i true) a _
    have hset : Bk b p.T #[x] (w.setCell ⟨b, 0, none⟩ x) := h4.set_ 0 _
    have hsize : (w.setCell ⟨b, 0, none⟩ x).heap.size = w.heap.size := by
      have e1 := (hI.bel.setCell (p := ⟨b, 0, none⟩) h2 x).size
      simp
    refine ⟨hI.bel.setCell (p := ⟨b, 0, none⟩) h2 x, hI.size, hI.defs, hI.kp, fun t ht => by have := hini undef t ht; rw [hd] at this; exact this, hcl, fun t ht hkt => hss p hp t _ w b y x h2 h4 (hsp' t (by rw [hd]; exact fun h => by cases h) ht hkt), fun q hq hlq => ?_, fun q hq r hr' hqr hlq hlr => hI.df q hq r hr' hqr ((set_get hlq).resolve_left (hq1 q hq).1) ((set_get hlr).resolve_left (hq1 r hr').1)⟩
    have hlq2 : listed.getD q.ia false = true := (set_get hlq).resolve_left (hq1 q hq).1
    by_cases hqd : q.d = p.d
    · obtain rfl := (hq1 q hq).2.2 hqd
      exact ⟨b, h1, h2, by rw [hsize]; exact h3, x, hset, fun _ => hx⟩
    · obtain ⟨c, k1, k2, k3, yq, k4, k5⟩ := hI.al q hq hlq2
      have hbc : b ≠ c := by
        rintro rfl
        exact hI.df q hq p hp hqd hlq2 hpa (k1.trans h1.symm)
      refine ⟨c, k1, k2, by rw [hsize]; exact k3, yq, (heap_setCell_other w ⟨b, 0, none⟩ c _ (Ne.symm hbc)).trans k4, fun hl => k5 ?_⟩
      rcases set_get hl with h | h
      · exact absurd (by rw [(hq1 q hq).2.1 h]) hqd
      · exact h
end
/-- THE RULE for a region whose operations yield values, or make a block of one cell and store into it. -/
theorem wp_region_umk {P : Program} {id : Nat} {ops : Array Oper} {Q : Exit → Act → World → Prop} {a0 : Act} {w0 : World} (SP : Nat → Value → World → Prop) (ks : List (Nat × Nat)) (ms : List Mk) (ds : List Nat) (hds : dsts2 ops = ds) (hm : P.follows .mixedOrders = true) (he : earlierC ops = true)
    (hst : ∀ t v w w', SP t v w → Below w.heap.size w w' → SP t v w') (hss : ∀ p ∈ ms, ∀ t v w b y x, w0.heap.size ≤ b → Bk b p.T #[y] w → SP t v w → SP t v (w.setCell ⟨b, 0, none⟩ x)) (hsd : ∀ p ∈ ms, ∀ v w, SP p.d v w)
    (hms : ∀ p ∈ ms, ∃ os, ops[p.is]? = some os ∧ waitsB .any ops os p.s = true ∧ (os.after.any fun e => Region.binds .any e && e.on == p.ia) = true)
    (hmi : ∀ p ∈ ms, p.ia < ops.size ∧ p.is < ops.size)
    (hsz : (ops.toList.all fun o => match o.dst with | some d => decide (d < a0.tmps.size) | none => true) = true)
    (h0 : ∀ t, noDstB ops t = true → SP t (a0.tmps.getD t undef) w0)
    (hop : ∀ (i : Nat) (o : Oper), ops[i]? = some o → KindX P ops Q SP ks ms a0 w0 i o)
    (hend : ∀ (vs : Nat → Value) w, Below w0.heap.size w0 w → (∀ t, (∀ j, (t, j) ∉ ks) → SP t (vs t) w) → (∀ p ∈ ms, ∃ b y, vs p.d = .pointer (some ⟨b, 0, none⟩) ∧ w0.heap.size ≤ b ∧ Bk b p.T #[y] w ∧ vs p.s = .agg #[y]) → Q .normal (putAll vs ds a0) w) : (Code.region id ops true).wp P Q a0 w0 := by
  have hsz' : ∀ (i : Nat) (o : Oper) d, ops[i]? = some o → o.dst = some d → d < a0.tmps.size := by
    intro i o d ho hd
    rw [List.all_eq_true] at hsz
    have := hsz o (by
      have := Array.mem_of_getElem? ho
      simpa using this)
    rw [hd] at this
    exact of_decide_eq_true this
  have hnone : ∀ j : Nat, (Array.replicate ops.size false).getD j false = true → False := by
    intro j h
    by_cases hj : j < ops.size
    · simp [Array.getD, hj] at h
    · simp [Array.getD, hj] at h
  refine wp_region_inv (RInvX ops SP ks ms a0 w0) hm he ⟨bDrew w0, rfl, rfl, fun _ _ => rfl, fun _ _ => rfl, fun i o ho hl => (hnone i hl).elim, fun t ht _ => ?_, fun p hp hl => (hnone _ hl).elim, fun p hp q hq _ hl => (hnone _ hl).elim⟩ (fun i o ho listed a w hls hli haft hI => rinvX_op hst hss hsd hms hsz' i o ho (hop i o ho) listed a w hls hli haft hI) ?_
  · refine hst _ _ _ _ (h0 t ?_) (bDrew w0)
    unfold noDstB
    rw [List.all_eq_true]
    intro o ho
    by_cases hd : o.dst = some t
    · exfalso
      have hmem : o ∈ ops := by simpa using ho
      obtain ⟨i, hi, hio⟩ := Array.mem_iff_getElem.1 hmem
      exact hnone i (ht i o (by rw [Array.getElem?_eq_getElem hi, hio]) hd)
    · simp [hd]
  · intro listed a w hdone hI
    have hsp : ∀ t, (∀ j, (t, j) ∉ ks) → SP t (a.tmps.getD t undef) w := fun t htk => hI.sp t (fun i o ho _ => hdone i (Array.getElem?_eq_some_iff.1 ho).1) fun j hj => absurd hj (htk j)
    have e : a = putAll (fun t => a.tmps.getD t undef) ds a0 := by
      rw [← hds]
      have e1 : a.tmps = (putAll (fun t => a.tmps.getD t undef) (dsts2 ops) a0).tmps := by
        apply Array.ext_getElem?
        intro t
        by_cases ht : t < a0.tmps.size
        · rw [putAll_get _ _ _ _ ht]
          have hts := hI.size
          have h1 : a.tmps[t]? = some (a.tmps.getD t undef) := by
            rw [Array.getD_eq_getD_getElem?, Array.getElem?_eq_getElem (by omega)]; rfl
          by_cases hm2 : t ∈ dsts2 ops
          · rw [if_pos hm2]; exact h1
          · rw [if_neg hm2, h1]
            have hn : noDstB ops t = true := by
              unfold noDstB
              rw [List.all_eq_true]
              intro o ho
              by_cases hd2 : o.dst = some t
              · exact absurd (List.mem_filterMap.2 ⟨o, ho, hd2⟩) hm2
              · simp [hd2]
            rw [hI.kp t hn, Array.getD_eq_getD_getElem?, Array.getElem?_eq_getElem ht]
            rfl
        · have hts := hI.size
          rw [Array.getElem?_eq_none (by omega), Array.getElem?_eq_none (by rw [putAll_size]; omega)]
      have e2 : a.defers = (putAll (fun t => a.tmps.getD t undef) (dsts2 ops) a0).defers := by rw [putAll_defers]; exact hI.defs
      generalize putAll (fun t => a.tmps.getD t undef) (dsts2 ops) a0 = b at e1 e2
      cases a; cases b
      simp only at e1 e2
      rw [e1, e2]
    have h := hend (fun t => a.tmps.getD t undef) w hI.bel hsp (fun p hp => by
      obtain ⟨b, h1, h2, _, y, h4, h5⟩ := hI.al p hp (hdone _ (hmi p hp).1)
      exact ⟨b, y, h1, h2, h4, h5 (hdone _ (hmi p hp).2)⟩)
    rwa [← e] at h
end Go.Proofs.YtmngghglcgmkeaaGreatDoor
