/- Out of: Rgm Rgn Yl1. -/
import Derived.Test.YtgepbkldgnjpfaaGreatDoorZgq
import Derived.Test.YtgepbkldgnjpfaaGreatDoorZgx
import Derived.Test.YtgepbkldgnjpfaaGreatDoorZgz
import Derived.Test.YtgepbkldgnjpfaaGreatDoorZgaa
import Derived.BigQuiet
/- A drawn region that makes blocks of several cells and stores into them (gen/mkrgm.py, out of Regs). -/
namespace Go.Proofs.YtgepbkldgnjpfaaGreatDoor
open Go.RowKit

/-- A block of k cells that the region makes (operation ia, slot d), and stores into (operation is, what slot s holds). -/
structure Mn where
  ia : Nat
  is : Nat
  d : Nat
  s : Nat
  T : TypeId
  k : Nat
instance mnDec : DecidableEq Mn := fun a b => decidable_of_iff (a.ia = b.ia ∧ a.is = b.is ∧ a.d = b.d ∧ a.s = b.s ∧ a.T = b.T ∧ a.k = b.k) ⟨fun h => by
    obtain ⟨a1, a2, a3, a4, a5, a6⟩ := a
    obtain ⟨b1, b2, b3, b4, b5, b6⟩ := b
    obtain ⟨h1, h2, h3, h4, h5, h6⟩ := h
    simp only at h1 h2 h3 h4 h5 h6
    subst h1; subst h2; subst h3; subst h4; subst h5; subst h6
    rfl, fun h => by subst h; exact ⟨rfl, rfl, rfl, rfl, rfl, rfl⟩⟩
/-- A block of k cells. -/
structure BkN (b : Nat) (T : TypeId) (k : Nat) (y : Array Value) (w : World) : Prop where
  bk : Bk b T y w
  sz : y.size = k
theorem BkN.block {b : Nat} {T : TypeId} {k : Nat} {y : Array Value} {w w' : World} (h : BkN b T k y w) (hb : w'.heap[b]? = w.heap[b]?) : BkN b T k y w' := ⟨hb.trans h.bk, h.sz⟩
theorem BkN.kep {b c : Nat} {T : TypeId} {k : Nat} {y : Array Value} {w w' : World} (h : BkN b T k y w) (hk : Kep c c w w') (hne : b ≠ c) : BkN b T k y w' := ⟨hk.bk h.bk hne hne, h.sz⟩
structure RInvN (ops : Array Oper) (SP : Nat → Value → World → Prop) (ms : List Mn) (a0 : Act) (w0 : World) (listed : Array Bool) (a : Act) (w : World) : Prop where
  bel : Below w0.heap.size w0 w
  size : a.tmps.size = a0.tmps.size
  defs : a.defers = a0.defers
  kp : ∀ t : Nat, noDstB ops t = true → a.tmps.getD t undef = a0.tmps.getD t undef
  cl : ∀ (i : Nat) (o : Oper), ops[i]? = some o → listed.getD i false = true → ∀ e ∈ o.after, Region.binds .any e = true → listed.getD e.on false = true
  sp : ∀ t : Nat, (∀ (i : Nat) (o : Oper), ops[i]? = some o → o.dst = some t → listed.getD i false = true) → SP t (a.tmps.getD t undef) w
  al : ∀ p ∈ ms, listed.getD p.ia false = true → ∃ b, a.tmps.getD p.d undef = .pointer (some ⟨b, 0, none⟩) ∧ w0.heap.size ≤ b ∧ b < w.heap.size ∧ ∃ y, BkN b p.T p.k y w ∧ (listed.getD p.is false = true → a.tmps.getD p.s undef = .agg y)
  df : ∀ p ∈ ms, ∀ q ∈ ms, p.d ≠ q.d → listed.getD p.ia false = true → listed.getD q.ia false = true → a.tmps.getD p.d undef ≠ a.tmps.getD q.d undef
/-- The kinds of operations. -/
def KindN (P : Program) (ops : Array Oper) (Q : Exit → Act → World → Prop) (SP : Nat → Value → World → Prop) (ms : List Mn) (a0 : Act) (w0 : World) (i : Nat) (o : Oper) : Prop :=
  (OpOk P .any ops Q SP a0 w0 o ∧ ∀ p ∈ ms, p.ia ≠ i ∧ p.is ≠ i ∧ o.dst ≠ some p.d) ∨
  (∃ p ∈ ms, ∃ z : Array Value, z.size = p.k ∧ p.ia = i ∧ o.dst = some p.d ∧ o.guard = none ∧ (∀ q ∈ ms, q.ia = i → q.d = p.d) ∧ (∀ q ∈ ms, q.is ≠ i ∧ (q.d = p.d → q = p)) ∧ ∀ (a : Act) (w : World), (execOp a.eval o).run P w = .ok (.value (.pointer (some ⟨w.heap.size, 0, none⟩))) (w.alloc (.cells z p.T))) ∨
  (∃ p ∈ ms, p.is = i ∧ o.dst = none ∧ o.guard = none ∧ waitsB .any ops o p.d = true ∧ waitsB .any ops o p.s = true ∧ (o.after.any fun e => Region.binds .any e && e.on == p.ia) = true ∧ (∀ q ∈ ms, q.ia ≠ i ∧ (q.is = i → q = p) ∧ (q.d = p.d → q = p)) ∧
    ∀ (a : Act) (w : World) (b : Nat) (y : Array Value), a.eval (.tmp p.d) = .pointer (some ⟨b, 0, none⟩) → SP p.s (a.eval (.tmp p.s)) w → BkN b p.T p.k y w → ∃ xs w', a.eval (.tmp p.s) = .agg xs ∧ (execOp a.eval o).run P w = .ok .skip w' ∧ Kep b b w w' ∧ BkN b p.T p.k xs w')
section
variable {P : Program} {ops : Array Oper} {Q : Exit → Act → World → Prop} {SP : Nat → Value → World → Prop} {ms : List Mn} {a0 : Act} {w0 : World}
theorem rinvN_op (hst : ∀ t v w w', SP t v w → Below w.heap.size w w' → SP t v w') (hss : ∀ p ∈ ms, ∀ t v w b y w', w0.heap.size ≤ b → BkN b p.T p.k y w → Kep b b w w' → SP t v w → SP t v w') (hsd : ∀ p ∈ ms, ∀ v w, SP p.d v w)
    (hms : ∀ p ∈ ms, ∃ os, ops[p.is]? = some os ∧ waitsB .any ops os p.s = true ∧ (os.after.any fun e => Region.binds .any e && e.on == p.ia) = true)
    (hsz : ∀ (i : Nat) (o : Oper) d, ops[i]? = some o → o.dst = some d → d < a0.tmps.size)
    (i : Nat) (o : Oper) (hoi : ops[i]? = some o) (hk : KindN P ops Q SP ms a0 w0 i o) (listed : Array Bool) (a : Act) (w : World) (_ : listed.size = ops.size) (hli : listed.getD i false = false) (haft : ∀ e ∈ o.after, Region.binds .any e = true → listed.getD e.on false = true) (hI : RInvN ops SP ms a0 w0 listed a w) :
      (Region.wanted o (yielded ops a.tmps) = true ∧ o.wp P a w (fun a' w' => RInvN ops SP ms a0 w0 (listed.setIfInBounds i true) a' w') Q) ∨ (Region.wanted o (yielded ops a.tmps) = false ∧ RInvN ops SP ms a0 w0 (listed.setIfInBounds i true) (a.put o.dst undef) w) := by
  have hil : i < ops.size := (Array.getElem?_eq_some_iff.1 hoi).1
  have hcl : ∀ (j : Nat) (oj : Oper), ops[j]? = some oj → (listed.setIfInBounds i true).getD j false = true → ∀ e ∈ oj.after, Region.binds .any e = true → (listed.setIfInBounds i true).getD e.on false = true := by
    intro j oj hj hlj e he hb
    have hup : ∀ m : Nat, listed.getD m false = true → (listed.setIfInBounds i true).getD m false = true := by
      intro m hm
      by_cases him : i = m
      · subst him
        rw [hli] at hm; cases hm
      · rw [getD_set_ne false him]; exact hm
    rcases set_get hlj with rfl | h
    · rw [hoi] at hj
      injection hj with hj
      subst hj
      exact hup _ (haft e he hb)
    · exact hup _ (hI.cl j oj hj h e he hb)
  have hsp' : ∀ (t : Nat), o.dst ≠ some t → (∀ (j : Nat) (oj : Oper), ops[j]? = some oj → oj.dst = some t → (listed.setIfInBounds i true).getD j false = true) → SP t (a.tmps.getD t undef) w := by
    intro t hd ht
    refine hI.sp t fun j oj hj hdj => ?_
    rcases set_get (ht j oj hj hdj) with rfl | h
    · rw [hoi] at hj
      injection hj with hj
      rw [hj] at hd
      exact absurd hdj hd
    · exact h
  have hnst : ∀ q ∈ ms, o.dst = some q.s → listed.getD q.is false = false := by
    intro q hq hd
    obtain ⟨os, hos, hws, _⟩ := hms q hq
    rw [← Bool.not_eq_true]
    intro h
    have := waits_all hws (hI.cl q.is os hos h) i o hoi hd
    rw [hli] at this; cases this
  rcases hk with ⟨hn, hne⟩ | ⟨p, hp, z, hzk, hpi, hd, hg, hq1, hq2, hrun⟩ | ⟨p, hp, hpi, hd, hg, hwd, hws, hwa, hq1, hrun⟩
  · obtain ⟨hw, hwp⟩ := hn a w hI.bel hI.size hI.defs fun t ht => hI.sp t (waits_all ht haft)
    refine .inl ⟨hw, Oper.wp_mono (fun a' w' => ?_) hwp⟩
    rintro ⟨v, rfl, hb, hs⟩
    have hgt : ∀ t : Nat, o.dst ≠ some t → (a.put o.dst v).tmps.getD t undef = a.tmps.getD t undef := by
      intro t ht
      cases hd2 : o.dst with
      | none => rfl
      | some d => exact put_get (fun e => ht (by rw [hd2, e]))
    refine ⟨bTrans hI.bel hb, ?_, ?_, fun t ht => ?_, hcl, fun t ht => ?_, fun q hq hlq => ?_, fun q hq r hr hqr hlq hlr => ?_⟩
    · rw [← hI.size]; unfold Act.put; split <;> simp
    · rw [← hI.defs]; unfold Act.put; split <;> rfl
    · rw [hgt t (fun hd => noDst_ne ht hoi hd rfl)]; exact hI.kp t ht
    · by_cases hd : o.dst = some t
      · rw [hd, put_here (by rw [hI.size]; exact hsz i o t hoi hd)]
        exact hs t hd
      · rw [hgt t hd]
        exact hst _ _ _ _ (hsp' t hd ht) hb
    · have hlq2 : listed.getD q.ia false = true := by
        rcases set_get hlq with h | h
        · exact absurd h (hne q hq).1
        · exact h
      obtain ⟨b, h1, h2, h3, y, h4, h5⟩ := hI.al q hq hlq2
      refine ⟨b, by rw [hgt _ (hne q hq).2.2]; exact h1, h2, Nat.lt_of_lt_of_le h3 hb.size, y, h4.block (hb.block b h3), fun hl => ?_⟩
      have hl2 : listed.getD q.is false = true := by
        rcases set_get hl with h | h
        · exact absurd h (hne q hq).2.1
        · exact h
      rw [hgt _ (fun h => by rw [hnst q hq h] at hl2; cases hl2)]
      exact h5 hl2
    · have hl1 : listed.getD q.ia false = true := (set_get hlq).resolve_left (hne q hq).1
      have hl2 : listed.getD r.ia false = true := (set_get hlr).resolve_left (hne r hr).1
      rw [hgt _ (hne q hq).2.2, hgt _ (hne r hr).2.2]
      exact hI.df q hq r hr hqr hl1 hl2
  · refine .inl ⟨by simp [Region.wanted, hg], ?_⟩
    unfold Oper.wp
    rw [hrun a w]
    show RInvN ops SP ms a0 w0 (listed.setIfInBounds i true) (a.put o.dst _) _
    have hb := bAlloc w (.cells z p.T)
    have hnew : BkN w.heap.size p.T p.k z (w.alloc (.cells z p.T)) := ⟨Bk.new _ _ _, hzk⟩
    have hlt := hnew.bk.lt
    rw [hd]
    have hps : p.d < a.tmps.size := by rw [hI.size]; exact hsz i o p.d hoi hd
    refine ⟨bTrans hI.bel hb, ?_, ?_, fun t ht => ?_, hcl, fun t ht => ?_, fun q hq hlq => ?_, fun q hq r hr hqr hlq hlr => ?_⟩
    · rw [← hI.size]; simp [Act.put]
    · rw [← hI.defs]; rfl
    · rw [put_get (noDst_ne ht hoi hd)]; exact hI.kp t ht
    · by_cases htd : t = p.d
      · subst htd
        exact hsd p hp _ _
      · rw [put_get htd]
        exact hst _ _ _ _ (hsp' t (by rw [hd]; intro h; injection h with h; exact htd h.symm) ht) hb
    · by_cases hqd : q.d = p.d
      · obtain rfl := (hq2 q hq).2 hqd
        refine ⟨w.heap.size, put_here hps, hI.bel.size, hlt, z, hnew, fun hl => ?_⟩
        exfalso
        rcases set_get hl with h | h
        · exact (hq2 q hq).1 h
        · obtain ⟨os, hos, hws, hwa⟩ := hms q hq
          have h6 := hI.cl q.is os hos h
          rw [Array.any_eq_true] at hwa
          obtain ⟨x, hx, he2⟩ := hwa
          rw [Bool.and_eq_true, beq_iff_eq] at he2
          have := h6 _ (Array.getElem_mem hx) he2.1
          rw [he2.2, hpi, hli] at this
          cases this
      · have hlq2 : listed.getD q.ia false = true := by
          rcases set_get hlq with h | h
          · exact absurd (hq1 q hq h) hqd
          · exact h
        obtain ⟨b, h1, h2, h3, y, h4, h5⟩ := hI.al q hq hlq2
        refine ⟨b, by rw [put_get hqd]; exact h1, h2, Nat.lt_of_lt_of_le h3 hb.size, y, h4.block (hb.block b h3), fun hl => ?_⟩
        have hl2 : listed.getD q.is false = true := by
          rcases set_get hl with h | h
          · exact absurd h (hq2 q hq).1
          · exact h
        rw [put_get (fun h => by rw [hnst q hq (by rw [hd, h])] at hl2; cases hl2)]
        exact h5 hl2
    · have hfar : ∀ r ∈ ms, r.d ≠ p.d → (listed.setIfInBounds i true).getD r.ia false = true → a.tmps.getD r.d undef ≠ .pointer (some ⟨w.heap.size, 0, none⟩) := by
        intro r hr hrd hlr he
        have hlr2 : listed.getD r.ia false = true := by
          rcases set_get hlr with h | h
          · exact absurd (hq1 r hr h) hrd
          · exact h
        obtain ⟨b, h1, _, h3, _⟩ := hI.al r hr hlr2
        rw [h1] at he
        injection he with he
        injection he with he
        injection he with he
        omega
      by_cases hqd : q.d = p.d
      · have hrd : r.d ≠ p.d := fun h => hqr (hqd.trans h.symm)
        rw [hqd, put_here hps, put_get hrd]
        exact (hfar r hr hrd hlr).symm
      · by_cases hrd : r.d = p.d
        · rw [hrd, put_here hps, put_get hqd]
          exact hfar q hq hqd hlq
        · have hl1 : listed.getD q.ia false = true := (set_get hlq).resolve_left fun h => hqd (hq1 q hq h)
          have hl2 : listed.getD r.ia false = true := (set_get hlr).resolve_left fun h => hrd (hq1 r hr h)
          rw [put_get hqd, put_get hrd]
          exact hI.df q hq r hr hqr hl1 hl2
  · refine .inl ⟨by simp [Region.wanted, hg], ?_⟩
    have hpa : listed.getD p.ia false = true := by
      rw [Array.any_eq_true] at hwa
      obtain ⟨x, hx, he2⟩ := hwa
      rw [Bool.and_eq_true, beq_iff_eq] at he2
      rw [← he2.2]
      exact haft _ (Array.getElem_mem hx) he2.1
    obtain ⟨b, h1, h2, h3, y, h4, _⟩ := hI.al p hp hpa
    obtain ⟨x, w2, hx, hr, hkp, hset⟩ := hrun a w b y h1 (hI.sp p.s (waits_all hws haft)) h4
    unfold Oper.wp
    rw [hr]
    show RInvN ops SP ms a0 w0 (listed.setIfInBounds i true) (a.put o.dst undef) _
    rw [hd]
    show RInvN ops SP ms a0 w0 (listed.setIfInBounds i true) a _
    have hb2 : Below w0.heap.size w0 w2 := hI.bel.trans (hkp.below h2 h2 hI.bel.size)
    refine ⟨hb2, hI.size, hI.defs, hI.kp, hcl, fun t ht => hss p hp t _ w b y w2 h2 h4 hkp (hsp' t (by rw [hd]; exact fun h => by cases h) ht), fun q hq hlq => ?_, fun q hq r hr' hqr hlq hlr => hI.df q hq r hr' hqr ((set_get hlq).resolve_left (hq1 q hq).1) ((set_get hlr).resolve_left (hq1 r hr').1)⟩
    have hlq2 : listed.getD q.ia false = true := (set_get hlq).resolve_left (hq1 q hq).1
    by_cases hqd : q.d = p.d
    · obtain rfl := (hq1 q hq).2.2 hqd
      exact ⟨b, h1, h2, Nat.lt_of_lt_of_le h3 hkp.size, x, hset, fun _ => hx⟩
    · obtain ⟨c, k1, k2, k3, yq, k4, k5⟩ := hI.al q hq hlq2
      have hbc : b ≠ c := by
        rintro rfl
        exact hI.df q hq p hp hqd hlq2 hpa (k1.trans h1.symm)
      refine ⟨c, k1, k2, Nat.lt_of_lt_of_le k3 hkp.size, yq, k4.kep hkp (Ne.symm hbc), fun hl => k5 ?_⟩
      rcases set_get hl with h | h
      · exact absurd (by rw [(hq1 q hq).2.1 h]) hqd
      · exact h
end
/-- THE RULE for a region whose operations yield values, or make a block of one cell and store into it. -/
theorem wp_region_mn {P : Program} {id : Nat} {ops : Array Oper} {Q : Exit → Act → World → Prop} {a0 : Act} {w0 : World} (SP : Nat → Value → World → Prop) (ms : List Mn) (ds : List Nat) (hds : dsts2 ops = ds) (hm : P.follows .mixedOrders = true) (he : earlierC ops = true)
    (hst : ∀ t v w w', SP t v w → Below w.heap.size w w' → SP t v w') (hss : ∀ p ∈ ms, ∀ t v w b y w', w0.heap.size ≤ b → BkN b p.T p.k y w → Kep b b w w' → SP t v w → SP t v w') (hsd : ∀ p ∈ ms, ∀ v w, SP p.d v w)
    (hms : ∀ p ∈ ms, ∃ os, ops[p.is]? = some os ∧ waitsB .any ops os p.s = true ∧ (os.after.any fun e => Region.binds .any e && e.on == p.ia) = true)
    (hmi : ∀ p ∈ ms, p.ia < ops.size ∧ p.is < ops.size)
    (hsz : (ops.toList.all fun o => match o.dst with | some d => decide (d < a0.tmps.size) | none => true) = true)
    (h0 : ∀ t, noDstB ops t = true → SP t (a0.tmps.getD t undef) w0)
    (hop : ∀ (i : Nat) (o : Oper), ops[i]? = some o → KindN P ops Q SP ms a0 w0 i o)
    (hend : ∀ (vs : Nat → Value) w, Below w0.heap.size w0 w → (∀ t, SP t (vs t) w) → (∀ p ∈ ms, ∃ b y, vs p.d = .pointer (some ⟨b, 0, none⟩) ∧ w0.heap.size ≤ b ∧ BkN b p.T p.k y w ∧ vs p.s = .agg y) → Q .normal (putAll vs ds a0) w) : (Code.region id ops true).wp P Q a0 w0 := by
  have hsz' : ∀ (i : Nat) (o : Oper) d, ops[i]? = some o → o.dst = some d → d < a0.tmps.size := by
    intro i o d ho hd
    rw [List.all_eq_true] at hsz
    have := hsz o (by
      have := Array.mem_of_getElem? ho
      simpa using this)
    rw [hd] at this
    exact of_decide_eq_true this
  have hnone : ∀ j : Nat, (Array.replicate ops.size false).getD j false = true → False := by
    intro j h
    by_cases hj : j < ops.size
    · simp [Array.getD, hj] at h
    · simp [Array.getD, hj] at h
  refine wp_region_inv (RInvN ops SP ms a0 w0) hm he ⟨bDrew w0, rfl, rfl, fun _ _ => rfl, fun i o ho hl => (hnone i hl).elim, fun t ht => ?_, fun p hp hl => (hnone _ hl).elim, fun p hp q hq _ hl => (hnone _ hl).elim⟩ (fun i o ho listed a w hls hli haft hI => rinvN_op hst hss hsd hms hsz' i o ho (hop i o ho) listed a w hls hli haft hI) ?_
  · refine hst _ _ _ _ (h0 t ?_) (bDrew w0)
    unfold noDstB
    rw [List.all_eq_true]
    intro o ho
    by_cases hd : o.dst = some t
    · exfalso
      have hmem : o ∈ ops := by simpa using ho
      obtain ⟨i, hi, hio⟩ := Array.mem_iff_getElem.1 hmem
      exact hnone i (ht i o (by rw [Array.getElem?_eq_getElem hi, hio]) hd)
    · simp [hd]
  · intro listed a w hdone hI
    have hsp : ∀ t, SP t (a.tmps.getD t undef) w := fun t => hI.sp t fun i o ho _ => hdone i (Array.getElem?_eq_some_iff.1 ho).1
    have e : a = putAll (fun t => a.tmps.getD t undef) ds a0 := by
      rw [← hds]
      have e1 : a.tmps = (putAll (fun t => a.tmps.getD t undef) (dsts2 ops) a0).tmps := by
        apply Array.ext_getElem?
        intro t
        by_cases ht : t < a0.tmps.size
        · rw [putAll_get _ _ _ _ ht]
          have hts := hI.size
          have h1 : a.tmps[t]? = some (a.tmps.getD t undef) := by
            rw [Array.getD_eq_getD_getElem?, Array.getElem?_eq_getElem (by omega)]; rfl
          by_cases hm2 : t ∈ dsts2 ops
          · rw [if_pos hm2]; exact h1
          · rw [if_neg hm2, h1]
            have hn : noDstB ops t = true := by
              unfold noDstB
              rw [List.all_eq_true]
              intro o ho
              by_cases hd2 : o.dst = some t
              · exact absurd (List.mem_filterMap.2 ⟨o, ho, hd2⟩) hm2
              · simp [hd2]
            rw [hI.kp t hn, Array.getD_eq_getD_getElem?, Array.getElem?_eq_getElem ht]
            rfl
        · have hts := hI.size
          rw [Array.getElem?_eq_none (by omega), Array.getElem?_eq_none (by rw [putAll_size]; omega)]
      have e2 : a.defers = (putAll (fun t => a.tmps.getD t undef) (dsts2 ops) a0).defers := by rw [putAll_defers]; exact hI.defs
      generalize putAll (fun t => a.tmps.getD t undef) (dsts2 ops) a0 = b at e1 e2
      cases a; cases b
      simp only at e1 e2
      rw [e1, e2]
    have h := hend (fun t => a.tmps.getD t undef) w hI.bel hsp (fun p hp => by
      obtain ⟨b, h1, h2, _, y, h4, h5⟩ := hI.al p hp (hdone _ (hmi p hp).1)
      exact ⟨b, y, h1, h2, h4, h5 (hdone _ (hmi p hp).2)⟩)
    rwa [← e] at h
section
variable {P : Program} {ops : Array Oper} {Q : Exit → Act → World → Prop} {SP : Nat → Value → World → Prop} {ms : List Mn} {a0 : Act} {w0 : World} {o : Oper} {i d s u f : Nat}
theorem kindn_n (h : OpOk P .any ops Q SP a0 w0 o) (hn : ∀ p ∈ ms, p.ia ≠ i ∧ p.is ≠ i ∧ o.dst ≠ some p.d) : KindN P ops Q SP ms a0 w0 i o := .inl ⟨h, hn⟩
theorem kindn_alloc (p : Mn) (z : Array Value) (hp : p ∈ ms) (hz : z.size = p.k) (hi : p.ia = i) (hd : o.dst = some p.d) (hg : o.guard = none) (h1 : ∀ q ∈ ms, q.ia = i → q.d = p.d) (h2 : ∀ q ∈ ms, q.is ≠ i ∧ (q.d = p.d → q = p))
    (hrun : ∀ (a : Act) (w : World), (execOp a.eval o).run P w = .ok (.value (.pointer (some ⟨w.heap.size, 0, none⟩))) (w.alloc (.cells z p.T))) : KindN P ops Q SP ms a0 w0 i o :=
  .inr (.inl ⟨p, hp, z, hz, hi, hd, hg, h1, h2, hrun⟩)
theorem kindn_store (p : Mn) (hp : p ∈ ms) (hi : p.is = i) (hd : o.dst = none) (hg : o.guard = none) (hw1 : waitsB .any ops o p.d = true) (hw2 : waitsB .any ops o p.s = true) (hw3 : (o.after.any fun e => Region.binds .any e && e.on == p.ia) = true)
    (h1 : ∀ q ∈ ms, q.ia ≠ i ∧ (q.is = i → q = p) ∧ (q.d = p.d → q = p))
    (hrun : ∀ (a : Act) (w : World) (b : Nat) (y : Array Value), a.eval (.tmp p.d) = .pointer (some ⟨b, 0, none⟩) → SP p.s (a.eval (.tmp p.s)) w → BkN b p.T p.k y w → ∃ xs w', a.eval (.tmp p.s) = .agg xs ∧ (execOp a.eval o).run P w = .ok .skip w' ∧ Kep b b w w' ∧ BkN b p.T p.k xs w') : KindN P ops Q SP ms a0 w0 i o :=
  .inr (.inr ⟨p, hp, hi, hd, hg, hw1, hw2, hw3, h1, hrun⟩)
end
end Go.Proofs.YtgepbkldgnjpfaaGreatDoor

/- States and slips as slots of a drawn region (gen/mkrgn.py). -/
namespace Go.Proofs.YtgepbkldgnjpfaaGreatDoor
open Go.RowKit Go.Sort Go.BigFrame Go.Maps

theorem kepGrown {b : Nat} {w w' : World} (hk : Kep b b w w') : w.grownBy w' (some b) := ⟨hk.os, hk.tape, hk.output, hk.size, fun i hi h1 => hk.block i hi (by intro e; exact h1 (by rw [e])) (by intro e; exact h1 (by rw [e]))⟩
theorem Own.kepT {α : Type} {enc : α → List Value} {k : Nat} {e : TypeId} {base : Nat} {v : Value} {l : List α} {w w' : World} (h : Own enc k e base v l w) {b : Nat} {T : TypeId} {y : Array Value} (hb : Bk b T y w) (hne : e ≠ T) (hk : Kep b b w w') : Own enc k e base v l w' := h.kept (kepGrown hk) (Or.inr (Ne.symm (h.ne_ hb hne)))
/-- A state's value. -/
def StV (S : Ste) (n : Nat) (v : Value) (w : World) : Prop := ∃ o1 o2 o3, v = .agg #[.int .i64 S.y, .int .i64 S.i, .int .i64 S.o, .map o1, .map o2, .int .i64 S.tb, .int .i64 S.tt, .map o3] ∧ StOk S ⟨.map o1, .map o2, .map o3⟩ n w
theorem StV.of {S : Ste} {V : StA} {n : Nat} {w : World} (h : StOk S V n w) : StV S n (stV S V) w := by
  obtain ⟨vb, vs, vo⟩ := V
  obtain ⟨o1, h1⟩ := h.be.form
  obtain ⟨o2, h2⟩ := h.so.form
  obtain ⟨o3, h3⟩ := h.od.form
  dsimp only at h1 h2 h3
  subst h1 h2 h3
  exact ⟨o1, o2, o3, rfl, h⟩
theorem StV.below {S : Ste} {n : Nat} {v : Value} {w w' : World} (h : StV S n v w) (hb : Below w.heap.size w w') : StV S n v w' := by
  obtain ⟨o1, o2, o3, h1, h2⟩ := h
  exact ⟨o1, o2, o3, h1, h2.below hb⟩
theorem StV.kepT {S : Ste} {n : Nat} {v : Value} {w w' : World} (h : StV S n v w) {b : Nat} {T : TypeId} {y : Array Value} (hb : Bk b T y w) (hk : Kep b b w w') : StV S n v w' := by
  obtain ⟨o1, o2, o3, h1, h2⟩ := h
  exact ⟨o1, o2, o3, h1, h2.kep hb hk⟩
/-- A slip's value. -/
def SlpV (B : Nat) (x : Slp) (v : Value) (w : World) : Prop := ∃ A cap, v = .agg #[.int .i64 x.1, .int .i64 x.2.1, .slice A x.2.2.length cap] ∧ Own encLi 3 44 B (.slice A x.2.2.length cap) x.2.2 w
theorem SlpV.of {B : Nat} {x : Slp} {u : Value} {w : World} (h : Own encLi 3 44 B u x.2.2 w) : SlpV B x (.agg #[.int .i64 x.1, .int .i64 x.2.1, u]) w := by
  obtain ⟨A, cap, rfl, _⟩ := own_Sl encLi_len h
  exact ⟨A, cap, rfl, h⟩
theorem SlpV.below {B : Nat} {x : Slp} {v : Value} {w w' : World} (h : SlpV B x v w) (hb : Below w.heap.size w w') : SlpV B x v w' := by
  obtain ⟨A, cap, h1, h2⟩ := h
  exact ⟨A, cap, h1, h2.none_ ⟨hb.os, hb.tape, hb.output, hb.size, fun i hi _ => hb.block i hi⟩⟩
theorem SlpV.kepT {B : Nat} {x : Slp} {v : Value} {w w' : World} (h : SlpV B x v w) {b : Nat} {T : TypeId} {y : Array Value} (hT : T = 33 ∨ T = 41) (hb : Bk b T y w) (hk : Kep b b w w') : SlpV B x v w' := by
  obtain ⟨A, cap, h1, h2⟩ := h
  exact ⟨A, cap, h1, h2.kepT hb (by rcases hT with rfl | rfl <;> decide) hk⟩
def spSt (S : Ste) (n : Nat) : Sp := ⟨StV S n, fun _ _ _ h hb => h.below hb⟩
def spSl (B : Nat) (x : Slp) : Sp := ⟨SlpV B x, fun _ _ _ h hb => h.below hb⟩
def spStep (S : Ste) (n B : Nat) (x : Slp) (e : Int) : Sp := ⟨fun v w => ∃ a b, v = .tuple #[a, b, .int .i64 e] ∧ StV S n a w ∧ SlpV B x b w, fun v w w' h hb => by
  obtain ⟨a, b, h1, h2, h3⟩ := h
  exact ⟨a, b, h1, h2.below hb, h3.below hb⟩⟩
/-- It stays, too, where such a block is written. -/
def Kst (s : Sp) : Prop := ∀ v w b T y w', (T = 33 ∨ T = 41) → Bk b T y w → Kep b b w w' → s.p v w → s.p v w'
theorem kst_val (x : Value) : Kst (Sp.val x) := fun _ _ _ _ _ _ _ _ _ h => h
theorem kst_st (S : Ste) (n : Nat) : Kst (spSt S n) := fun _ _ _ _ _ _ _ hb hk h => StV.kepT h hb hk
theorem kst_sl (B : Nat) (x : Slp) : Kst (spSl B x) := fun _ _ _ _ _ _ hT hb hk h => SlpV.kepT h hT hb hk
theorem kst_step (S : Ste) (n B : Nat) (x : Slp) (e : Int) : Kst (spStep S n B x e) := fun _ _ _ _ _ _ hT hb hk h => by
  obtain ⟨a, b, h1, h2, h3⟩ := h
  exact ⟨a, b, h1, h2.kepT hb hk, h3.kepT hT hb hk⟩
theorem sps_kst {tbl : List (Nat × Sp)} (h : ∀ p ∈ tbl, Kst p.2) {t : Nat} {v : Value} {w w' : World} {b : Nat} {T : TypeId} {y : Array Value} (hT : T = 33 ∨ T = 41) (hb : Bk b T y w) (hk : Kep b b w w') (hs : SPS tbl t v w) : SPS tbl t v w' := fun s he => by
  have hm : (t, s) ∈ tbl := by
    clear h hs
    induction tbl with
    | nil => cases he
    | cons q r ih =>
      obtain ⟨u, z⟩ := q
      rw [List.lookup_cons] at he
      by_cases hu : t = u
      · subst hu
        simp at he
        subst he
        exact List.mem_cons_self ..
      · have e : (t == u) = false := beq_eq_false_iff_ne.2 hu
        rw [e] at he
        exact List.mem_cons_of_mem _ (ih he)
  exact h (t, s) hm _ _ _ _ _ _ hT hb hk (hs s he)
theorem run_newSt {o : Oper} {a : Act} {w : World} (hop : o.op = .alloc 33) : (execOp a.eval o).run Tryz.prog w = .ok (.value (.pointer (some ⟨w.heap.size, 0, none⟩))) (w.alloc (.cells #[.int .i64 0, .int .i64 0, .int .i64 0, .map none, .map none, .int .i64 0, .int .i64 0, .map none] 33)) := by
  unfold execOp
  simp only [hop]
  go_simp
theorem run_newSlp {o : Oper} {a : Act} {w : World} (hop : o.op = .alloc 41) : (execOp a.eval o).run Tryz.prog w = .ok (.value (.pointer (some ⟨w.heap.size, 0, none⟩))) (w.alloc (.cells #[.int .i64 0, .int .i64 0, .slice none 0 0] 41)) := by
  unfold execOp
  simp only [hop]
  go_simp
theorem run_putSt {S : Ste} {n d s b : Nat} {o : Oper} {a : Act} {w : World} {y : Array Value} (hop : o.op = .store 33 (.tmp d) (.tmp s)) (hd : a.eval (.tmp d) = .pointer (some ⟨b, 0, none⟩)) (hs : StV S n (a.eval (.tmp s)) w) (hk : BkN b 33 8 y w) :
    ∃ xs w', a.eval (.tmp s) = .agg xs ∧ (execOp a.eval o).run Tryz.prog w = .ok .skip w' ∧ Kep b b w w' ∧ BkN b 33 8 xs w' := by
  obtain ⟨o1, o2, o3, e, _⟩ := hs
  obtain ⟨l⟩ := y
  have hl : l.length = 8 := hk.sz
  match l, hl with
  | [y0, y1, y2, y3, y4, y5, y6, y7], _ =>
  have c0 : w.cell? ⟨b, 0, none⟩ = some y0 := hk.bk.cell 0
  have f0 : w.frozen? ⟨b, 0, none⟩ = false := hk.bk.frozen 0
  have c1 : w.cell? ⟨b, 1, none⟩ = some y1 := hk.bk.cell 1
  have f1 : w.frozen? ⟨b, 1, none⟩ = false := hk.bk.frozen 1
  have c2 : w.cell? ⟨b, 2, none⟩ = some y2 := hk.bk.cell 2
  have f2 : w.frozen? ⟨b, 2, none⟩ = false := hk.bk.frozen 2
  have c3 : w.cell? ⟨b, 3, none⟩ = some y3 := hk.bk.cell 3
  have f3 : w.frozen? ⟨b, 3, none⟩ = false := hk.bk.frozen 3
  have c4 : w.cell? ⟨b, 4, none⟩ = some y4 := hk.bk.cell 4
  have f4 : w.frozen? ⟨b, 4, none⟩ = false := hk.bk.frozen 4
  have c5 : w.cell? ⟨b, 5, none⟩ = some y5 := hk.bk.cell 5
  have f5 : w.frozen? ⟨b, 5, none⟩ = false := hk.bk.frozen 5
  have c6 : w.cell? ⟨b, 6, none⟩ = some y6 := hk.bk.cell 6
  have f6 : w.frozen? ⟨b, 6, none⟩ = false := hk.bk.frozen 6
  have c7 : w.cell? ⟨b, 7, none⟩ = some y7 := hk.bk.cell 7
  have f7 : w.frozen? ⟨b, 7, none⟩ = false := hk.bk.frozen 7
  refine ⟨_, set8 w b (.int .i64 S.y) (.int .i64 S.i) (.int .i64 S.o) (.map o1) (.map o2) (.int .i64 S.tb) (.int .i64 S.tt) (.map o3), e, ?_, kep_set8 w _ _ _ _ _ _ _ _, ⟨bk_set8 hk.bk _ _ _ _ _ _ _ _, rfl⟩⟩
  unfold execOp set8
  simp only [hop, hd, e]
  go_simp
theorem run_putSlp {B : Nat} {x : Slp} {d s b : Nat} {o : Oper} {a : Act} {w : World} {y : Array Value} (hop : o.op = .store 41 (.tmp d) (.tmp s)) (hd : a.eval (.tmp d) = .pointer (some ⟨b, 0, none⟩)) (hs : SlpV B x (a.eval (.tmp s)) w) (hk : BkN b 41 3 y w) :
    ∃ xs w', a.eval (.tmp s) = .agg xs ∧ (execOp a.eval o).run Tryz.prog w = .ok .skip w' ∧ Kep b b w w' ∧ BkN b 41 3 xs w' := by
  obtain ⟨A, cap, e, _⟩ := hs
  obtain ⟨l⟩ := y
  have hl : l.length = 3 := hk.sz
  match l, hl with
  | [y0, y1, y2], _ =>
  have c0 : w.cell? ⟨b, 0, none⟩ = some y0 := hk.bk.cell 0
  have f0 : w.frozen? ⟨b, 0, none⟩ = false := hk.bk.frozen 0
  have c1 : w.cell? ⟨b, 1, none⟩ = some y1 := hk.bk.cell 1
  have f1 : w.frozen? ⟨b, 1, none⟩ = false := hk.bk.frozen 1
  have c2 : w.cell? ⟨b, 2, none⟩ = some y2 := hk.bk.cell 2
  have f2 : w.frozen? ⟨b, 2, none⟩ = false := hk.bk.frozen 2
  refine ⟨_, ((w.setCell ⟨b, 0, none⟩ (.int .i64 x.1)).setCell ⟨b, 1, none⟩ (.int .i64 x.2.1)).setCell ⟨b, 2, none⟩ (.slice A x.2.2.length cap), e, ?_, (Kep.set _ _ _).trans ((Kep.set _ _ _).trans (Kep.set _ _ _)), ⟨bk_set3 hk.bk _ _ _, rfl⟩⟩
  unfold execOp
  simp only [hop, hd, e]
  go_simp
/-- A step, as a slot's value. -/
theorem yr_StepV (S : Ste) (V : StA) (M : Mon) (A : MoA) (n : Nat) (w : World) (hS : StOk S V n w) (hn : n ≤ 900000000) (hm : MoOk M A w) (hT : Tb w) (B : Nat) (hB : B ≤ w.heap.size) {S2 : Ste} {x : Slp} {e2 : Int} (hq : stepM S M = (S2, x, e2)) :
    Calls Tryz.prog 16 #[stV S V, moV M A] w fun e w' => ∃ v, e = .returned v ∧ Below w.heap.size w w' ∧ (spStep S2 (n + 384) B x e2).p v w' := by
  refine (yr_Step S V M A n w hS hn hm hT).mono fun e w' ⟨V2, v, h1, h2, h3, h4⟩ => ?_
  rw [hq] at h1 h2 h3
  exact ⟨_, h1, h4, _, _, rfl, StV.of h3, SlpV.of (own_low h2 hB)⟩
end Go.Proofs.YtgepbkldgnjpfaaGreatDoor

/- year's laws: the example's month, the example, slips compared, sizes (gen/mkyl1.py). -/
namespace Go.Proofs.YtgepbkldgnjpfaaGreatDoor
open Go.RowKit Go.Sort Go.BigFrame Go.Maps

theorem slOne {α : Type} {enc : α → List Value} {k : Nat} (x : α) {b : Nat} {t : TypeId} {w : World} (h : Bk b t (enc x).toArray w) : Sl enc k w w.heap.size (some ⟨b, 0, none⟩) [x] := fun _ =>
  ⟨b, 0, rfl, h.lt, fun i y hy j u hu => by
    cases i with
    | zero =>
      have : x = y := by simpa using hy
      subst this
      have h2 : w.cell? ⟨b, j, none⟩ = some u := by rw [h.cell]; simpa using hu
      simpa using h2
    | succ i => simp at hy⟩
theorem slNil {α : Type} {enc : α → List Value} {k B : Nat} {w : World} {A : Option Addr} : Sl enc k w B A [] := fun h => absurd rfl h
/-- Where the example's rows lie. -/
def someA (b1 b2 b3 : Nat) : MoA := ⟨(some ⟨b1, 0, none⟩, 1), (none, 0), (none, 0), (none, 0), (some ⟨b2, 0, none⟩, 1), (none, 0), (some ⟨b3, 0, none⟩, 1)⟩
def SomeV (v : Value) (w : World) : Prop := ∃ b1 b2 b3, v = moV someM (someA b1 b2 b3) ∧ Bk b1 65 #[.string { data := #[115, 97, 108, 97, 114, 121] }, .int .i64 500000] w ∧ Bk b2 57 #[.string { data := #[111, 108, 100] }, .int .i64 100000, .int .i64 100000, .int .i64 0] w ∧ Bk b3 61 #[.string { data := #[108, 111, 97, 110] }, .int .i64 0, .int .i64 0, .int .i64 10000, .int .i64 0, .int .i64 0] w
theorem some_ok {b1 b2 b3 : Nat} {w : World} (k1 : Bk b1 65 #[.string { data := #[115, 97, 108, 97, 114, 121] }, .int .i64 500000] w) (k2 : Bk b2 57 #[.string { data := #[111, 108, 100] }, .int .i64 100000, .int .i64 100000, .int .i64 0] w) (k3 : Bk b3 61 #[.string { data := #[108, 111, 97, 110] }, .int .i64 0, .int .i64 0, .int .i64 10000, .int .i64 0, .int .i64 0] w) : MoOk someM (someA b1 b2 b3) w :=
  ⟨slOne (enc := encI) (cSalary, 500000) k1, slNil, slNil, slNil, slOne (enc := encH) (cOld, 100000, 100000, 0) k2, slNil, slOne (enc := encO) ⟨cLoan, 0, 0, 10000, 0, 0⟩ k3, by decide, by
      refine ⟨?_, ?_, ?_, ?_, ?_, ?_⟩ <;> intro x hx <;> simp only [someM, List.mem_cons, List.not_mem_nil, or_false] at hx <;> (subst hx; decide)⟩
def spSome : Sp := ⟨SomeV, fun v w w' h hb => by
  obtain ⟨b1, b2, b3, h1, h2, h3, h4⟩ := h
  exact ⟨b1, b2, b3, h1, bkBel h2 hb, bkBel h3 hb, bkBel h4 hb⟩⟩
theorem kst_some : Kst spSome := fun v w b T y w' hT hb hk h => by
  obtain ⟨b1, b2, b3, h1, h2, h3, h4⟩ := h
  have n1 : b1 ≠ b := fun e => absurd rfl (Bk.ne_ (by rw [e] at h2; exact h2) hb (by rcases hT with rfl | rfl <;> decide))
  have n2 : b2 ≠ b := fun e => absurd rfl (Bk.ne_ (by rw [e] at h3; exact h3) hb (by rcases hT with rfl | rfl <;> decide))
  have n3 : b3 ≠ b := fun e => absurd rfl (Bk.ne_ (by rw [e] at h4; exact h4) hb (by rcases hT with rfl | rfl <;> decide))
  exact ⟨b1, b2, b3, h1, hk.bk h2 n1 n1, hk.bk h3 n2 n2, hk.bk h4 n3 n3⟩
set_option maxHeartbeats 2000000 in
set_option maxRecDepth 100000 in
theorem la_some (w : World) : Calls Tryz.prog 19 #[] w fun e w' => ∃ v, e = .returned v ∧ Below w.heap.size w w' ∧ SomeV v w' := by
  obtain ⟨b0, hb0⟩ : ∃ x, w.heap.size = x := ⟨_, rfl⟩
  obtain ⟨b1, hb1⟩ : ∃ x, b0 + 1 = x := ⟨_, rfl⟩
  obtain ⟨b2, hb2⟩ : ∃ x, b1 + 1 = x := ⟨_, rfl⟩
  obtain ⟨b3, hb3⟩ : ∃ x, b2 + 1 = x := ⟨_, rfl⟩
  obtain ⟨u0, hu0⟩ : ∃ x, w.alloc (.cells #[.int .i64 2024, .int .i64 1, .int .i64 12, .slice (some ⟨b1, 0, none⟩) 1 1, .slice none 0 0, .slice none 0 0, .slice none 0 0, .slice (some ⟨b2, 0, none⟩) 1 1, .int .i64 0, .int .i64 0, .slice none 0 0, .slice (some ⟨b3, 0, none⟩) 1 1] 54) = x := ⟨_, rfl⟩
  obtain ⟨u1, hu1⟩ : ∃ x, u0.alloc (.cells #[.string { data := #[115, 97, 108, 97, 114, 121] }, .int .i64 500000] 65) = x := ⟨_, rfl⟩
  obtain ⟨u2, hu2⟩ : ∃ x, u1.alloc (.cells #[.string { data := #[111, 108, 100] }, .int .i64 100000, .int .i64 100000, .int .i64 0] 57) = x := ⟨_, rfl⟩
  obtain ⟨u3, hu3⟩ : ∃ x, u2.alloc (.cells #[.string { data := #[108, 111, 97, 110] }, .int .i64 0, .int .i64 0, .int .i64 10000, .int .i64 0, .int .i64 0] 61) = x := ⟨_, rfl⟩
  have z0 : u0.heap.size = b1 := by rw [← hu0]; simp; omega
  have z1 : u1.heap.size = b2 := by rw [← hu1]; simp; omega
  have z2 : u2.heap.size = b3 := by rw [← hu2]; simp; omega
  have g0 : Below w.heap.size w u0 := by rw [← hu0]; exact bAlloc _ _
  have g1 : Below u0.heap.size u0 u1 := by rw [← hu1]; exact bAlloc _ _
  have g2 : Below u1.heap.size u1 u2 := by rw [← hu2]; exact bAlloc _ _
  have g3 : Below u2.heap.size u2 u3 := by rw [← hu3]; exact bAlloc _ _
  have k0 : Bk b0 54 #[.int .i64 2024, .int .i64 1, .int .i64 12, .slice (some ⟨b1, 0, none⟩) 1 1, .slice none 0 0, .slice none 0 0, .slice none 0 0, .slice (some ⟨b2, 0, none⟩) 1 1, .int .i64 0, .int .i64 0, .slice none 0 0, .slice (some ⟨b3, 0, none⟩) 1 1] u3 := bkBel (bkBel (bkBel (by rw [← hu0, ← hb0]; exact Bk.new _ _ _) g1) g2) g3
  have k1 : Bk b1 65 #[.string { data := #[115, 97, 108, 97, 114, 121] }, .int .i64 500000] u3 := bkBel (bkBel (by rw [← hu1, ← z0]; exact Bk.new _ _ _) g2) g3
  have k2 : Bk b2 57 #[.string { data := #[111, 108, 100] }, .int .i64 100000, .int .i64 100000, .int .i64 0] u3 := bkBel (by rw [← hu2, ← z1]; exact Bk.new _ _ _) g3
  have k3 : Bk b3 61 #[.string { data := #[108, 111, 97, 110] }, .int .i64 0, .int .i64 0, .int .i64 10000, .int .i64 0, .int .i64 0] u3 := by rw [← hu3, ← z2]; exact Bk.new _ _ _
  have HM : Hid (SomeV (.agg #[.int .i64 2024, .int .i64 1, .int .i64 12, .slice (some ⟨b1, 0, none⟩) 1 1, .slice none 0 0, .slice none 0 0, .slice none 0 0, .slice (some ⟨b2, 0, none⟩) 1 1, .int .i64 0, .int .i64 0, .slice none 0 0, .slice (some ⟨b3, 0, none⟩) 1 1]) u3) := Lib.hid ⟨b1, b2, b3, rfl, k1, k2, k3⟩
  have HB : Hid (Below w.heap.size w u3) := Lib.hid (bTrans (bTrans (bTrans g0 g1) g2) g3)
  have HWF : Hid ((((w.alloc (.cells #[.int .i64 2024, .int .i64 1, .int .i64 12, .slice (some ⟨w.heap.size + 1, 0, none⟩) 1 1, .slice none 0 0, .slice none 0 0, .slice none 0 0, .slice (some ⟨w.heap.size + 1 + 1, 0, none⟩) 1 1, .int .i64 0, .int .i64 0, .slice none 0 0, .slice (some ⟨w.heap.size + 1 + 1 + 1, 0, none⟩) 1 1] 54)).alloc (.cells #[.string { data := #[115, 97, 108, 97, 114, 121] }, .int .i64 500000] 65)).alloc (.cells #[.string { data := #[111, 108, 100] }, .int .i64 100000, .int .i64 100000, .int .i64 0] 57)).alloc (.cells #[.string { data := #[108, 111, 97, 110] }, .int .i64 0, .int .i64 0, .int .i64 10000, .int .i64 0, .int .i64 0] 61) = u3 ∧ w.heap.size + 1 + 1 + 1 = b3 ∧ w.heap.size + 1 + 1 = b2 ∧ w.heap.size + 1 = b1 ∧ w.heap.size = b0) := Lib.hid ⟨by rw [show w.heap.size + 1 = b1 by omega, hb2, hb3, hu0, hu1, hu2, hu3], by omega, by omega, by omega, hb0⟩
  have r0 : u3.cell? ⟨b0, 0, none⟩ = some (.int .i64 2024) := Bk.cell (k0) 0
  have r1 : u3.cell? ⟨b0, 1, none⟩ = some (.int .i64 1) := Bk.cell (k0) 1
  have r2 : u3.cell? ⟨b0, 2, none⟩ = some (.int .i64 12) := Bk.cell (k0) 2
  have r3 : u3.cell? ⟨b0, 3, none⟩ = some (.slice (some ⟨b1, 0, none⟩) 1 1) := Bk.cell (k0) 3
  have r4 : u3.cell? ⟨b0, 4, none⟩ = some (.slice none 0 0) := Bk.cell (k0) 4
  have r5 : u3.cell? ⟨b0, 5, none⟩ = some (.slice none 0 0) := Bk.cell (k0) 5
  have r6 : u3.cell? ⟨b0, 6, none⟩ = some (.slice none 0 0) := Bk.cell (k0) 6
  have r7 : u3.cell? ⟨b0, 7, none⟩ = some (.slice (some ⟨b2, 0, none⟩) 1 1) := Bk.cell (k0) 7
  have r8 : u3.cell? ⟨b0, 8, none⟩ = some (.int .i64 0) := Bk.cell (k0) 8
  have r9 : u3.cell? ⟨b0, 9, none⟩ = some (.int .i64 0) := Bk.cell (k0) 9
  have r10 : u3.cell? ⟨b0, 10, none⟩ = some (.slice none 0 0) := Bk.cell (k0) 10
  have r11 : u3.cell? ⟨b0, 11, none⟩ = some (.slice (some ⟨b3, 0, none⟩) 1 1) := Bk.cell (k0) 11
  clear g0 g1 g2 g3 z0 z1 z2 hu0 hu1 hu2 hu3 k0 k1 k2 k3 hb0 hb1 hb2 hb3
  go_enter Tryz.func19, Tryz.ntmps19
  go_wp2
  rw [HWF.out.1, HWF.out.2.1, HWF.out.2.2.1, HWF.out.2.2.2.1, HWF.out.2.2.2.2]
  exact bodyPost_ret (v := .agg #[.int .i64 2024, .int .i64 1, .int .i64 12, .slice (some ⟨b1, 0, none⟩) 1 1, .slice none 0 0, .slice none 0 0, .slice none 0 0, .slice (some ⟨b2, 0, none⟩) 1 1, .int .i64 0, .int .i64 0, .slice none 0 0, .slice (some ⟨b3, 0, none⟩) 1 1]) (by simp [results, Tryz.results19, go_sem, r0, r1, r2, r3, r4, r5, r6, r7, r8, r9, r10, r11]) rfl ⟨_, rfl, by rw [← HWF.out.2.2.2.2]; exact HB.out, HM.out⟩

end Go.Proofs.YtgepbkldgnjpfaaGreatDoor
