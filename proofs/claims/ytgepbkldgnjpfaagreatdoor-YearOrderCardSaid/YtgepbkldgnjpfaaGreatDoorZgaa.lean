/- Out of: Regs. -/
import Derived.Test.YtgepbkldgnjpfaaGreatDoorZga
import Derived.Orders
import Derived.RegionTactic
import Derived.WalkKit
/- Merged from: Rgs Rgt Rga Rgo Rgb Rgk Rge. -/
namespace Go.Proofs.YtgepbkldgnjpfaaGreatDoor
open Go.RowKit

/-- Every operation that yields into slot t is one that o waits for. -/
def waitsB (md : Region.Mode) (ops : Array Oper) (o : Oper) (t : Nat) : Bool :=
  ops.toList.zipIdx.all fun p => !(p.1.dst == some t) || o.after.any fun e => Region.binds md e && e.on == p.2
/-- No operation yields into slot t. -/
def noDstB (ops : Array Oper) (t : Nat) : Bool := ops.toList.all fun o => !(o.dst == some t)
/-- What is asked of one operation. -/
def OpOk (P : Program) (md : Region.Mode) (ops : Array Oper) (Q : Exit → Act → World → Prop) (SP : Nat → Value → World → Prop) (a0 : Act) (w0 : World) (o : Oper) : Prop :=
  ∀ (a : Act) (w : World), Below w0.heap.size w0 w → a.tmps.size = a0.tmps.size → a.defers = a0.defers → (∀ t, waitsB md ops o t = true → SP t (a.tmps.getD t undef) w) →
    Region.wanted o (yielded ops a.tmps) = true ∧ o.wp P a w (fun a' w' => ∃ v, a' = a.put o.dst v ∧ Below w.heap.size w w' ∧ ∀ d, o.dst = some d → SP d v w') Q

theorem count_set {l : Array Bool} {i : Nat} (h : l[i]? = some false) : (l.setIfInBounds i true).toList.count false + 1 = l.toList.count false := by
  have hi : i < l.size := (Array.getElem?_eq_some_iff.1 h).1
  have h2 : l.toList[i]? = some false := by simpa using h
  rw [Array.toList_setIfInBounds]
  obtain ⟨A, B, hA, hB⟩ : ∃ A B, l.toList = A ++ false :: B ∧ A.length = i := by
    refine ⟨l.toList.take i, l.toList.drop (i + 1), ?_, by simp; omega⟩
    have hl : i < l.toList.length := by rw [Array.length_toList]; exact hi
    have h3 : l.toList.drop i = l.toList[i] :: l.toList.drop (i + 1) := List.drop_eq_getElem_cons hl
    have h4 : l.toList[i] = false := by
      obtain ⟨_, h5⟩ := List.getElem?_eq_some_iff.1 h2
      exact h5
    rw [h4] at h3
    rw [← h3, List.take_append_drop]
  rw [hA, ← hB, List.set_append_right _ _ (Nat.le_refl _), Nat.sub_self]
  simp [List.count_append]
  (try omega)

section
variable {P : Program} {ops : Array Oper} {Q : Exit → Act → World → Prop} {SP : Nat → Value → World → Prop} {a0 : Act} {w0 : World}
end

end Go.Proofs.YtgepbkldgnjpfaaGreatDoor

namespace Go.Proofs.YtgepbkldgnjpfaaGreatDoor
open Go.RowKit

section
variable {P : Program} {ops : Array Oper} {Q : Exit → Act → World → Prop} {SP : Nat → Value → World → Prop} {kl : Nat → Option Nat} {a0 : Act} {w0 : World}
end

/-- The frame behind a region: each slot that an operation yields into holds some value. -/
def dsts2 (ops : Array Oper) : List Nat := ops.toList.filterMap (·.dst)
def putAll (vs : Nat → Value) : List Nat → Act → Act
  | [], a => a
  | d :: r, a => putAll vs r (a.put (some d) (vs d))
theorem putAll_size (vs : Nat → Value) : ∀ (l : List Nat) (a : Act), (putAll vs l a).tmps.size = a.tmps.size
  | [], _ => rfl
  | d :: r, a => by rw [putAll, putAll_size vs r]; simp [Act.put]
theorem putAll_defers (vs : Nat → Value) : ∀ (l : List Nat) (a : Act), (putAll vs l a).defers = a.defers
  | [], _ => rfl
  | d :: r, a => by rw [putAll, putAll_defers vs r]; rfl
theorem putAll_get (vs : Nat → Value) (t : Nat) : ∀ (l : List Nat) (a : Act), t < a.tmps.size → (putAll vs l a).tmps[t]? = if t ∈ l then some (vs t) else a.tmps[t]?
  | [], _, _ => by simp [putAll]
  | d :: r, a, h => by
    rw [putAll, putAll_get vs t r _ (by simpa [Act.put] using h)]
    by_cases h1 : t ∈ r
    · simp [h1]
    · by_cases h2 : t = d
      · subst h2
        simp [h1, Act.put, h]
      · have h3 : ¬ t ∈ d :: r := by simp [h1, h2]
        rw [if_neg h1, if_neg h3]
        simp [Act.put, Array.getElem?_setIfInBounds_ne (Ne.symm h2)]
end Go.Proofs.YtgepbkldgnjpfaaGreatDoor

namespace Go.Proofs.YtgepbkldgnjpfaaGreatDoor
open Go.RowKit

/-- Each operation waits for earlier ones alone. -/
def earlierC (ops : Array Oper) : Bool := ops.toList.zipIdx.all fun p => p.1.after.all fun e => !(Region.binds .any e) || decide (e.on < p.2)
section
variable {P : Program} {ops : Array Oper} {Q : Exit → Act → World → Prop}
theorem wpAny_inv (Inv : Array Bool → Act → World → Prop) (he : earlierC ops = true)
    (hop : ∀ (i : Nat) (o : Oper), ops[i]? = some o → ∀ (listed : Array Bool) (a : Act) (w : World), listed.size = ops.size → listed.getD i false = false → (∀ e ∈ o.after, Region.binds .any e = true → listed.getD e.on false = true) → Inv listed a w →
      (Region.wanted o (yielded ops a.tmps) = true ∧ o.wp P a w (fun a' w' => Inv (listed.setIfInBounds i true) a' w') Q) ∨ (Region.wanted o (yielded ops a.tmps) = false ∧ Inv (listed.setIfInBounds i true) (a.put o.dst undef) w))
    (hend : ∀ listed a w, (∀ i, i < ops.size → listed.getD i false = true) → Inv listed a w → Q .normal a w) :
    ∀ (fuel : Nat) (listed : Array Bool) (a : Act) (w : World), listed.toList.count false ≤ fuel → listed.size = ops.size → Inv listed a w → wpAny P .any ops Q fuel listed a w := by
  have hall : ∀ (listed : Array Bool) (a : Act) (w : World), listed.size = ops.size → Inv listed a w → Region.ready .any ops listed = [] → Q .normal a w := by
    intro listed a w hls hI hr
    refine hend listed a w (fun i => ?_) hI
    induction i using Nat.strongRecOn with
    | _ i ih =>
      intro hi
      by_cases hl : listed.getD i false = true
      · exact hl
      · exfalso
        have hmem : i ∈ Region.ready .any ops listed := by
          unfold Region.ready
          rw [List.mem_filter]
          refine ⟨List.mem_range.2 hi, ?_⟩
          have hil : i < listed.size := by rw [hls]; exact hi
          have hlf : listed.getD i true = false := by
            have : listed.getD i false = listed.getD i true := by simp [Array.getD, hil]
            rw [← this]; simpa using hl
          rw [hlf, Array.getElem?_eq_getElem hi]
          simp only [Bool.not_false, Bool.true_and, Option.map_some, Option.getD_some]
          rw [Array.all_eq_true_iff_forall_mem]
          intro e hm
          by_cases hbd : Region.binds .any e = true
          · have hlt : e.on < i := by
              unfold earlierC at he
              rw [List.all_eq_true] at he
              have := he (ops[i], i) (by
                rw [List.mem_zipIdx_iff_getElem?]
                simp [hi])
              rw [Array.all_eq_true_iff_forall_mem] at this
              have h9 := this e hm
              rw [hbd] at h9
              simpa using h9
            rw [ih e.on hlt (by omega)]
            simp
          · simp [hbd]
        rw [hr] at hmem
        cases hmem
  intro fuel
  induction fuel with
  | zero =>
    intro listed a w hc hls hI
    have hr : Region.ready .any ops listed = [] := by
      rw [List.eq_nil_iff_forall_not_mem]
      intro i hi
      unfold Region.ready at hi
      rw [List.mem_filter] at hi
      have h1 := List.mem_range.1 hi.1
      have h2 := hi.2
      rw [Bool.and_eq_true] at h2
      have hil : i < listed.size := by rw [hls]; exact h1
      have : listed[i] = false := by
        have h3 := h2.1
        simpa [Array.getD, hil] using h3
      have h4 : false ∈ listed.toList := by
        rw [← this]
        exact Array.getElem_mem_toList hil
      have := List.count_pos_iff.2 h4
      omega
    exact ⟨hr, hall listed a w hls hI hr⟩
  | succ fuel ih =>
    intro listed a w hc hls hI
    refine ⟨hall listed a w hls hI, fun i hi => ?_⟩
    unfold Region.ready at hi
    rw [List.mem_filter] at hi
    have h1 := List.mem_range.1 hi.1
    have h2 := hi.2
    rw [Bool.and_eq_true] at h2
    have hil : i < listed.size := by rw [hls]; exact h1
    have hli : listed[i] = false := by simpa [Array.getD, hil] using h2.1
    have hoi : ops[i]? = some ops[i] := Array.getElem?_eq_getElem h1
    have haft : ∀ e ∈ ops[i].after, Region.binds .any e = true → listed.getD e.on false = true := by
      intro e hm hb
      have h3 := h2.2
      rw [hoi] at h3
      simp only [Option.map_some, Option.getD_some] at h3
      rw [Array.all_eq_true_iff_forall_mem] at h3
      have := h3 e hm
      rw [hb] at this
      simpa using this
    have hcnt : (listed.setIfInBounds i true).toList.count false ≤ fuel := by
      have := count_set (l := listed) (i := i) (by rw [Array.getElem?_eq_getElem hil, hli])
      omega
    have hsz : (listed.setIfInBounds i true).size = ops.size := by rw [Array.size_setIfInBounds]; exact hls
    unfold wpOp
    rw [hoi]
    show if Region.wanted ops[i] (yielded ops a.tmps) = true then _ else _
    rcases hop i ops[i] hoi listed a w hls (by simp [Array.getD, hil, hli]) haft hI with ⟨hw, hwp⟩ | ⟨hw, hin⟩
    · rw [if_pos hw]
      exact .inl (Oper.wp_mono (fun a' w' h => ih _ _ _ hcnt hsz h) hwp)
    · rw [if_neg (by rw [hw]; decide)]
      exact ih _ _ _ hcnt hsz hin
theorem wp_region_inv {id : Nat} {a0 : Act} {w0 : World} (Inv : Array Bool → Act → World → Prop) (hm : P.follows .mixedOrders = true) (he : earlierC ops = true)
    (h0 : Inv (Array.replicate ops.size false) a0 w0.drew)
    (hop : ∀ (i : Nat) (o : Oper), ops[i]? = some o → ∀ (listed : Array Bool) (a : Act) (w : World), listed.size = ops.size → listed.getD i false = false → (∀ e ∈ o.after, Region.binds .any e = true → listed.getD e.on false = true) → Inv listed a w →
      (Region.wanted o (yielded ops a.tmps) = true ∧ o.wp P a w (fun a' w' => Inv (listed.setIfInBounds i true) a' w') Q) ∨ (Region.wanted o (yielded ops a.tmps) = false ∧ Inv (listed.setIfInBounds i true) (a.put o.dst undef) w))
    (hend : ∀ listed a w, (∀ i, i < ops.size → listed.getD i false = true) → Inv listed a w → Q .normal a w) : (Code.region id ops true).wp P Q a0 w0 := by
  refine wp_region_any hm ?_
  refine wpAny_inv Inv he hop hend _ _ _ _ ?_ (by simp) h0
  have := List.count_le_length (a := false) (l := (Array.replicate ops.size false).toList)
  rw [Array.length_toList, Array.size_replicate] at this
  exact this
end

/-- A block of one cell that the region makes (operation ia, slot d), and stores into (operation is, what slot s holds). -/
structure Mk where
  ia : Nat
  is : Nat
  d : Nat
  s : Nat
  T : TypeId
structure RInvA (ops : Array Oper) (SP : Nat → Value → World → Prop) (ms : List Mk) (a0 : Act) (w0 : World) (listed : Array Bool) (a : Act) (w : World) : Prop where
  bel : Below w0.heap.size w0 w
  size : a.tmps.size = a0.tmps.size
  defs : a.defers = a0.defers
  kp : ∀ t : Nat, noDstB ops t = true → a.tmps.getD t undef = a0.tmps.getD t undef
  cl : ∀ (i : Nat) (o : Oper), ops[i]? = some o → listed.getD i false = true → ∀ e ∈ o.after, Region.binds .any e = true → listed.getD e.on false = true
  sp : ∀ t : Nat, (∀ (i : Nat) (o : Oper), ops[i]? = some o → o.dst = some t → listed.getD i false = true) → SP t (a.tmps.getD t undef) w
  al : ∀ p ∈ ms, listed.getD p.ia false = true → ∃ b, a.tmps.getD p.d undef = .pointer (some ⟨b, 0, none⟩) ∧ w0.heap.size ≤ b ∧ b < w.heap.size ∧ ∃ y, Bk b p.T #[y] w ∧ (listed.getD p.is false = true → a.tmps.getD p.s undef = .agg #[y])
  df : ∀ p ∈ ms, ∀ q ∈ ms, p.d ≠ q.d → listed.getD p.ia false = true → listed.getD q.ia false = true → a.tmps.getD p.d undef ≠ a.tmps.getD q.d undef
theorem set_get {l : Array Bool} {i j : Nat} (h : (l.setIfInBounds i true).getD j false = true) : j = i ∨ l.getD j false = true := by
  by_cases hji : i = j
  · exact .inl hji.symm
  · rw [getD_set_ne false hji] at h
    exact .inr h
theorem put_get {a : Act} {d t : Nat} {v : Value} (h : t ≠ d) : (a.put (some d) v).tmps.getD t undef = a.tmps.getD t undef := by
  simp [Act.put, Array.getD_eq_getD_getElem?, Array.getElem?_setIfInBounds_ne (Ne.symm h)]
theorem put_here {a : Act} {d : Nat} {v : Value} (h : d < a.tmps.size) : (a.put (some d) v).tmps.getD d undef = v := by
  simp [Act.put, Array.getD, h]
/-- The kinds of operations. -/
def KindOk (P : Program) (ops : Array Oper) (Q : Exit → Act → World → Prop) (SP : Nat → Value → World → Prop) (ms : List Mk) (a0 : Act) (w0 : World) (i : Nat) (o : Oper) : Prop :=
  (OpOk P .any ops Q SP a0 w0 o ∧ ∀ p ∈ ms, p.ia ≠ i ∧ p.is ≠ i ∧ o.dst ≠ some p.d) ∨
  (∃ p ∈ ms, ∃ z, p.ia = i ∧ o.dst = some p.d ∧ o.guard = none ∧ (∀ q ∈ ms, q.ia = i → q.d = p.d) ∧ (∀ q ∈ ms, q.is ≠ i ∧ (q.d = p.d → q = p)) ∧ ∀ (a : Act) (w : World), (execOp a.eval o).run P w = .ok (.value (.pointer (some ⟨w.heap.size, 0, none⟩))) (w.alloc (.cells #[z] p.T))) ∨
  (∃ p ∈ ms, p.is = i ∧ o.dst = none ∧ o.guard = none ∧ waitsB .any ops o p.d = true ∧ waitsB .any ops o p.s = true ∧ (o.after.any fun e => Region.binds .any e && e.on == p.ia) = true ∧ (∀ q ∈ ms, q.ia ≠ i ∧ (q.is = i → q = p) ∧ (q.d = p.d → q = p)) ∧ (∀ v w, SP p.s v w → ∃ A l c, v = .agg #[.slice A l c]) ∧
    ∀ (a : Act) (w : World) (b : Nat) (y : Value) (A : Option Addr) (l c : Nat), a.eval (.tmp p.d) = .pointer (some ⟨b, 0, none⟩) → a.eval (.tmp p.s) = .agg #[.slice A l c] → Bk b p.T #[y] w → (execOp a.eval o).run P w = .ok .skip (w.setCell ⟨b, 0, none⟩ (.slice A l c)))
theorem waits_all {ops : Array Oper} {o : Oper} {t : Nat} {listed : Array Bool} (h : waitsB .any ops o t = true) (haft : ∀ e ∈ o.after, Region.binds .any e = true → listed.getD e.on false = true) : ∀ (j : Nat) (oj : Oper), ops[j]? = some oj → oj.dst = some t → listed.getD j false = true := by
  intro j oj hj hd
  unfold waitsB at h
  rw [List.all_eq_true] at h
  have hm := h (oj, j) (by
    rw [List.mem_zipIdx_iff_getElem?]
    simpa using hj)
  rw [hd] at hm
  simp only [beq_self_eq_true, Bool.not_true, Bool.false_or] at hm
  rw [Array.any_eq_true] at hm
  obtain ⟨x, hx, he2⟩ := hm
  rw [Bool.and_eq_true, beq_iff_eq] at he2
  rw [← he2.2]
  exact haft _ (Array.getElem_mem hx) he2.1
theorem noDst_ne {ops : Array Oper} {t d i : Nat} {o : Oper} (ht : noDstB ops t = true) (ho : ops[i]? = some o) (hd : o.dst = some d) : t ≠ d := by
  rintro rfl
  unfold noDstB at ht
  rw [List.all_eq_true] at ht
  have := ht o (by have := Array.mem_of_getElem? ho; simpa using this)
  rw [hd] at this
  simp at this
section
variable {P : Program} {ops : Array Oper} {Q : Exit → Act → World → Prop} {SP : Nat → Value → World → Prop} {ms : List Mk} {a0 : Act} {w0 : World}
theorem rinvA_op (hst : ∀ t v w w', SP t v w → Below w.heap.size w w' → SP t v w') (hss : ∀ p ∈ ms, ∀ t v w b y x, w0.heap.size ≤ b → Bk b p.T #[y] w → SP t v w → SP t v (w.setCell ⟨b, 0, none⟩ x)) (hsd : ∀ p ∈ ms, ∀ v w, SP p.d v w)
    (hms : ∀ p ∈ ms, ∃ os, ops[p.is]? = some os ∧ waitsB .any ops os p.s = true ∧ (os.after.any fun e => Region.binds .any e && e.on == p.ia) = true)
    (hsz : ∀ (i : Nat) (o : Oper) d, ops[i]? = some o → o.dst = some d → d < a0.tmps.size)
    (i : Nat) (o : Oper) (hoi : ops[i]? = some o) (hk : KindOk P ops Q SP ms a0 w0 i o) (listed : Array Bool) (a : Act) (w : World) (_ : listed.size = ops.size) (hli : listed.getD i false = false) (haft : ∀ e ∈ o.after, Region.binds .any e = true → listed.getD e.on false = true) (hI : RInvA ops SP ms a0 w0 listed a w) :
      (Region.wanted o (yielded ops a.tmps) = true ∧ o.wp P a w (fun a' w' => RInvA ops SP ms a0 w0 (listed.setIfInBounds i true) a' w') Q) ∨ (Region.wanted o (yielded ops a.tmps) = false ∧ RInvA ops SP ms a0 w0 (listed.setIfInBounds i true) (a.put o.dst undef) w) := by
  have hil : i < ops.size := (Array.getElem?_eq_some_iff.1 hoi).1
  have hcl : ∀ (j : Nat) (oj : Oper), ops[j]? = some oj → (listed.setIfInBounds i true).getD j false = true → ∀ e ∈ oj.after, Region.binds .any e = true → (listed.setIfInBounds i true).getD e.on false = true := by
    intro j oj hj hlj e he hb
    have hup : ∀ m : Nat, listed.getD m false = true → (listed.setIfInBounds i true).getD m false = true := by
      intro m hm
      by_cases him : i = m
      · subst him
        rw [hli] at hm; cases hm
      · rw [getD_set_ne false him]; exact hm
    rcases set_get hlj with rfl | h
    · rw [hoi] at hj
      injection hj with hj
      subst hj
      exact hup _ (haft e he hb)
    · exact hup _ (hI.cl j oj hj h e he hb)
  have hsp' : ∀ (t : Nat), o.dst ≠ some t → (∀ (j : Nat) (oj : Oper), ops[j]? = some oj → oj.dst = some t → (listed.setIfInBounds i true).getD j false = true) → SP t (a.tmps.getD t undef) w := by
    intro t hd ht
    refine hI.sp t fun j oj hj hdj => ?_
    rcases set_get (ht j oj hj hdj) with rfl | h
    · rw [hoi] at hj
      injection hj with hj
      rw [hj] at hd
      exact absurd hdj hd
    · exact h
  have hnst : ∀ q ∈ ms, o.dst = some q.s → listed.getD q.is false = false := by
    intro q hq hd
    obtain ⟨os, hos, hws, _⟩ := hms q hq
    rw [← Bool.not_eq_true]
    intro h
    have := waits_all hws (hI.cl q.is os hos h) i o hoi hd
    rw [hli] at this; cases this
  rcases hk with ⟨hn, hne⟩ | ⟨p, hp, z, hpi, hd, hg, hq1, hq2, hrun⟩ | ⟨p, hp, hpi, hd, hg, hwd, hws, hwa, hq1, hagg, hrun⟩
  · obtain ⟨hw, hwp⟩ := hn a w hI.bel hI.size hI.defs fun t ht => hI.sp t (waits_all ht haft)
    refine .inl ⟨hw, Oper.wp_mono (fun a' w' => ?_) hwp⟩
    rintro ⟨v, rfl, hb, hs⟩
    have hgt : ∀ t : Nat, o.dst ≠ some t → (a.put o.dst v).tmps.getD t undef = a.tmps.getD t undef := by
      intro t ht
      cases hd2 : o.dst with
      | none => rfl
      | some d => exact put_get (fun e => ht (by rw [hd2, e]))
    refine ⟨bTrans hI.bel hb, ?_, ?_, fun t ht => ?_, hcl, fun t ht => ?_, fun q hq hlq => ?_, fun q hq r hr hqr hlq hlr => ?_⟩
    · rw [← hI.size]; unfold Act.put; split <;> simp
    · rw [← hI.defs]; unfold Act.put; split <;> rfl
    · rw [hgt t (fun hd => noDst_ne ht hoi hd rfl)]; exact hI.kp t ht
    · by_cases hd : o.dst = some t
      · rw [hd, put_here (by rw [hI.size]; exact hsz i o t hoi hd)]
        exact hs t hd
      · rw [hgt t hd]
        exact hst _ _ _ _ (hsp' t hd ht) hb
    · have hlq2 : listed.getD q.ia false = true := by
        rcases set_get hlq with h | h
        · exact absurd h (hne q hq).1
        · exact h
      obtain ⟨b, h1, h2, h3, y, h4, h5⟩ := hI.al q hq hlq2
      refine ⟨b, by rw [hgt _ (hne q hq).2.2]; exact h1, h2, Nat.lt_of_lt_of_le h3 hb.size, y, (hb.block b h3).trans h4, fun hl => ?_⟩
      have hl2 : listed.getD q.is false = true := by
        rcases set_get hl with h | h
        · exact absurd h (hne q hq).2.1
        · exact h
      rw [hgt _ (fun h => by rw [hnst q hq h] at hl2; cases hl2)]
      exact h5 hl2
    · have hl1 : listed.getD q.ia false = true := (set_get hlq).resolve_left (hne q hq).1
      have hl2 : listed.getD r.ia false = true := (set_get hlr).resolve_left (hne r hr).1
      rw [hgt _ (hne q hq).2.2, hgt _ (hne r hr).2.2]
      exact hI.df q hq r hr hqr hl1 hl2
  · refine .inl ⟨by simp [Region.wanted, hg], ?_⟩
    unfold Oper.wp
    rw [hrun a w]
    show RInvA ops SP ms a0 w0 (listed.setIfInBounds i true) (a.put o.dst _) _
    have hb := bAlloc w (.cells #[z] p.T)
    have hnew : Bk w.heap.size p.T #[z] (w.alloc (.cells #[z] p.T)) := Bk.new _ _ _
    have hlt := hnew.lt
    rw [hd]
    have hps : p.d < a.tmps.size := by rw [hI.size]; exact hsz i o p.d hoi hd
    refine ⟨bTrans hI.bel hb, ?_, ?_, fun t ht => ?_, hcl, fun t ht => ?_, fun q hq hlq => ?_, fun q hq r hr hqr hlq hlr => ?_⟩
    · rw [← hI.size]; simp [Act.put]
    · rw [← hI.defs]; rfl
    · rw [put_get (noDst_ne ht hoi hd)]; exact hI.kp t ht
    · by_cases htd : t = p.d
      · subst htd
        exact hsd p hp _ _
      · rw [put_get htd]
        exact hst _ _ _ _ (hsp' t (by rw [hd]; intro h; injection h with h; exact htd h.symm) ht) hb
    · by_cases hqd : q.d = p.d
      · obtain rfl := (hq2 q hq).2 hqd
        refine ⟨w.heap.size, put_here hps, hI.bel.size, hlt, z, hnew, fun hl => ?_⟩
        exfalso
        rcases set_get hl with h | h
        · exact (hq2 q hq).1 h
        · obtain ⟨os, hos, hws, hwa⟩ := hms q hq
          have h6 := hI.cl q.is os hos h
          rw [Array.any_eq_true] at hwa
          obtain ⟨x, hx, he2⟩ := hwa
          rw [Bool.and_eq_true, beq_iff_eq] at he2
          have := h6 _ (Array.getElem_mem hx) he2.1
          rw [he2.2, hpi, hli] at this
          cases this
      · have hlq2 : listed.getD q.ia false = true := by
          rcases set_get hlq with h | h
          · exact absurd (hq1 q hq h) hqd
          · exact h
        obtain ⟨b, h1, h2, h3, y, h4, h5⟩ := hI.al q hq hlq2
        refine ⟨b, by rw [put_get hqd]; exact h1, h2, Nat.lt_of_lt_of_le h3 hb.size, y, (hb.block b h3).trans h4, fun hl => ?_⟩
        have hl2 : listed.getD q.is false = true := by
          rcases set_get hl with h | h
          · exact absurd h (hq2 q hq).1
          · exact h
        rw [put_get (fun h => by rw [hnst q hq (by rw [hd, h])] at hl2; cases hl2)]
        exact h5 hl2
    · have hfar : ∀ r ∈ ms, r.d ≠ p.d → (listed.setIfInBounds i true).getD r.ia false = true → a.tmps.getD r.d undef ≠ .pointer (some ⟨w.heap.size, 0, none⟩) := by
        intro r hr hrd hlr he
        have hlr2 : listed.getD r.ia false = true := by
          rcases set_get hlr with h | h
          · exact absurd (hq1 r hr h) hrd
          · exact h
        obtain ⟨b, h1, _, h3, _⟩ := hI.al r hr hlr2
        rw [h1] at he
        injection he with he
        injection he with he
        injection he with he
        omega
      by_cases hqd : q.d = p.d
      · have hrd : r.d ≠ p.d := fun h => hqr (hqd.trans h.symm)
        rw [hqd, put_here hps, put_get hrd]
        exact (hfar r hr hrd hlr).symm
      · by_cases hrd : r.d = p.d
        · rw [hrd, put_here hps, put_get hqd]
          exact hfar q hq hqd hlq
        · have hl1 : listed.getD q.ia false = true := (set_get hlq).resolve_left fun h => hqd (hq1 q hq h)
          have hl2 : listed.getD r.ia false = true := (set_get hlr).resolve_left fun h => hrd (hq1 r hr h)
          rw [put_get hqd, put_get hrd]
          exact hI.df q hq r hr hqr hl1 hl2
  · refine .inl ⟨by simp [Region.wanted, hg], ?_⟩
    have hpa : listed.getD p.ia false = true := by
      rw [Array.any_eq_true] at hwa
      obtain ⟨x, hx, he2⟩ := hwa
      rw [Bool.and_eq_true, beq_iff_eq] at he2
      rw [← he2.2]
      exact haft _ (Array.getElem_mem hx) he2.1
    obtain ⟨b, h1, h2, h3, y, h4, _⟩ := hI.al p hp hpa
    obtain ⟨xA, xl, xc, hx⟩ := hagg _ _ (hI.sp p.s (waits_all hws haft))
    have hr := hrun a w b y xA xl xc h1 hx h4
    obtain ⟨x, hxe⟩ : ∃ x, Value.slice xA xl xc = x := ⟨_, rfl⟩
    rw [hxe] at hx hr
    unfold Oper.wp
    rw [hr]
    show RInvA ops SP ms a0 w0 (listed.setIfInBounds i true) (a.put o.dst undef) _
    rw [hd]
    show RInvA ops SP ms a0 w0 (listed.setIfInBounds i true) a _
    have hset : Bk b p.T #[x] (w.setCell ⟨b, 0, none⟩ x) := h4.set_ 0 _
    have hsize : (w.setCell ⟨b, 0, none⟩ x).heap.size = w.heap.size := by
      have e1 := (hI.bel.setCell (p := ⟨b, 0, none⟩) h2 x).size
      simp
    refine ⟨hI.bel.setCell (p := ⟨b, 0, none⟩) h2 x, hI.size, hI.defs, hI.kp, hcl, fun t ht => hss p hp t _ w b y x h2 h4 (hsp' t (by rw [hd]; exact fun h => by cases h) ht), fun q hq hlq => ?_, fun q hq r hr' hqr hlq hlr => hI.df q hq r hr' hqr ((set_get hlq).resolve_left (hq1 q hq).1) ((set_get hlr).resolve_left (hq1 r hr').1)⟩
    have hlq2 : listed.getD q.ia false = true := (set_get hlq).resolve_left (hq1 q hq).1
    by_cases hqd : q.d = p.d
    · obtain rfl := (hq1 q hq).2.2 hqd
      exact ⟨b, h1, h2, by rw [hsize]; exact h3, x, hset, fun _ => hx⟩
    · obtain ⟨c, k1, k2, k3, yq, k4, k5⟩ := hI.al q hq hlq2
      have hbc : b ≠ c := by
        rintro rfl
        exact hI.df q hq p hp hqd hlq2 hpa (k1.trans h1.symm)
      refine ⟨c, k1, k2, by rw [hsize]; exact k3, yq, (heap_setCell_other w ⟨b, 0, none⟩ c _ (Ne.symm hbc)).trans k4, fun hl => k5 ?_⟩
      rcases set_get hl with h | h
      · exact absurd (by rw [(hq1 q hq).2.1 h]) hqd
      · exact h
end
/-- THE RULE for a region whose operations yield values, or make a block of one cell and store into it. -/
theorem wp_region_mk {P : Program} {id : Nat} {ops : Array Oper} {Q : Exit → Act → World → Prop} {a0 : Act} {w0 : World} (SP : Nat → Value → World → Prop) (ms : List Mk) (ds : List Nat) (hds : dsts2 ops = ds) (hm : P.follows .mixedOrders = true) (he : earlierC ops = true)
    (hst : ∀ t v w w', SP t v w → Below w.heap.size w w' → SP t v w') (hss : ∀ p ∈ ms, ∀ t v w b y x, w0.heap.size ≤ b → Bk b p.T #[y] w → SP t v w → SP t v (w.setCell ⟨b, 0, none⟩ x)) (hsd : ∀ p ∈ ms, ∀ v w, SP p.d v w)
    (hms : ∀ p ∈ ms, ∃ os, ops[p.is]? = some os ∧ waitsB .any ops os p.s = true ∧ (os.after.any fun e => Region.binds .any e && e.on == p.ia) = true)
    (hmi : ∀ p ∈ ms, p.ia < ops.size ∧ p.is < ops.size)
    (hsz : (ops.toList.all fun o => match o.dst with | some d => decide (d < a0.tmps.size) | none => true) = true)
    (h0 : ∀ t, noDstB ops t = true → SP t (a0.tmps.getD t undef) w0)
    (hop : ∀ (i : Nat) (o : Oper), ops[i]? = some o → KindOk P ops Q SP ms a0 w0 i o)
    (hend : ∀ (vs : Nat → Value) w, Below w0.heap.size w0 w → (∀ t, SP t (vs t) w) → (∀ p ∈ ms, ∃ b y, vs p.d = .pointer (some ⟨b, 0, none⟩) ∧ w0.heap.size ≤ b ∧ Bk b p.T #[y] w ∧ vs p.s = .agg #[y]) → Q .normal (putAll vs ds a0) w) : (Code.region id ops true).wp P Q a0 w0 := by
  have hsz' : ∀ (i : Nat) (o : Oper) d, ops[i]? = some o → o.dst = some d → d < a0.tmps.size := by
    intro i o d ho hd
    rw [List.all_eq_true] at hsz
    have := hsz o (by
      have := Array.mem_of_getElem? ho
      simpa using this)
    rw [hd] at this
    exact of_decide_eq_true this
  have hnone : ∀ j : Nat, (Array.replicate ops.size false).getD j false = true → False := by
    intro j h
    by_cases hj : j < ops.size
    · simp [Array.getD, hj] at h
    · simp [Array.getD, hj] at h
  refine wp_region_inv (RInvA ops SP ms a0 w0) hm he ⟨bDrew w0, rfl, rfl, fun _ _ => rfl, fun i o ho hl => (hnone i hl).elim, fun t ht => ?_, fun p hp hl => (hnone _ hl).elim, fun p hp q hq _ hl => (hnone _ hl).elim⟩ (fun i o ho listed a w hls hli haft hI => rinvA_op hst hss hsd hms hsz' i o ho (hop i o ho) listed a w hls hli haft hI) ?_
  · refine hst _ _ _ _ (h0 t ?_) (bDrew w0)
    unfold noDstB
    rw [List.all_eq_true]
    intro o ho
    by_cases hd : o.dst = some t
    · exfalso
      have hmem : o ∈ ops := by simpa using ho
      obtain ⟨i, hi, hio⟩ := Array.mem_iff_getElem.1 hmem
      exact hnone i (ht i o (by rw [Array.getElem?_eq_getElem hi, hio]) hd)
    · simp [hd]
  · intro listed a w hdone hI
    have hsp : ∀ t, SP t (a.tmps.getD t undef) w := fun t => hI.sp t fun i o ho _ => hdone i (Array.getElem?_eq_some_iff.1 ho).1
    have e : a = putAll (fun t => a.tmps.getD t undef) ds a0 := by
      rw [← hds]
      have e1 : a.tmps = (putAll (fun t => a.tmps.getD t undef) (dsts2 ops) a0).tmps := by
        apply Array.ext_getElem?
        intro t
        by_cases ht : t < a0.tmps.size
        · rw [putAll_get _ _ _ _ ht]
          have hts := hI.size
          have h1 : a.tmps[t]? = some (a.tmps.getD t undef) := by
            rw [Array.getD_eq_getD_getElem?, Array.getElem?_eq_getElem (by omega)]; rfl
          by_cases hm2 : t ∈ dsts2 ops
          · rw [if_pos hm2]; exact h1
          · rw [if_neg hm2, h1]
            have hn : noDstB ops t = true := by
              unfold noDstB
              rw [List.all_eq_true]
              intro o ho
              by_cases hd2 : o.dst = some t
              · exact absurd (List.mem_filterMap.2 ⟨o, ho, hd2⟩) hm2
              · simp [hd2]
            rw [hI.kp t hn, Array.getD_eq_getD_getElem?, Array.getElem?_eq_getElem ht]
            rfl
        · have hts := hI.size
          rw [Array.getElem?_eq_none (by omega), Array.getElem?_eq_none (by rw [putAll_size]; omega)]
      have e2 : a.defers = (putAll (fun t => a.tmps.getD t undef) (dsts2 ops) a0).defers := by rw [putAll_defers]; exact hI.defs
      generalize putAll (fun t => a.tmps.getD t undef) (dsts2 ops) a0 = b at e1 e2
      cases a; cases b
      simp only at e1 e2
      rw [e1, e2]
    have h := hend (fun t => a.tmps.getD t undef) w hI.bel hsp (fun p hp => by
      obtain ⟨b, h1, h2, _, y, h4, h5⟩ := hI.al p hp (hdone _ (hmi p hp).1)
      exact ⟨b, y, h1, h2, h4, h5 (hdone _ (hmi p hp).2)⟩)
    rwa [← e] at h
end Go.Proofs.YtgepbkldgnjpfaaGreatDoor

namespace Go.Proofs.YtgepbkldgnjpfaaGreatDoor
open Go.RowKit

section
variable {P : Program} {ops : Array Oper} {Q : Exit → Act → World → Prop} {SP : Nat → Value → World → Prop} {a0 : Act} {w0 : World} {o : Oper} {d s u f : Nat}
/-- Its guard is met. -/
def GOk (ops : Array Oper) (SP : Nat → Value → World → Prop) (o : Oper) : Prop :=
  o.guard = none ∨ ∃ g e b, o.guard = some (g, b) ∧ (ops[g]?).bind (·.dst) = some e ∧ waitsB .any ops o e = true ∧ ∀ v w, SP e v w → v = .bool b
theorem wanted_of {a : Act} {w : World} (hg : GOk ops SP o) (hsp : ∀ t, waitsB .any ops o t = true → SP t (a.tmps.getD t undef) w) : Region.wanted o (yielded ops a.tmps) = true := by
  rcases hg with h | ⟨g, e, b, h1, h2, h3, h4⟩
  · simp [Region.wanted, h]
  · have h5 := h4 _ _ (hsp e h3)
    have h6 : a.tmps[e]? = some (.bool b) := by
      rw [Array.getD_eq_getD_getElem?] at h5
      cases h7 : a.tmps[e]? with
      | none => rw [h7] at h5; cases h5
      | some x => rw [h7] at h5; simpa using h5
    simp [Region.wanted, h1, yielded, h2, h6]
theorem opOk_move (hop : o.op = .move (.tmp s)) (hd : o.dst = some d) (hg : GOk ops SP o) (hs : waitsB .any ops o s = true) (h : ∀ v w, SP s v w → SP d v w) : OpOk P .any ops Q SP a0 w0 o :=
  fun a w _ _ _ hsp => ⟨wanted_of hg hsp, by
    unfold Oper.wp execOp
    simp only [hop, Sem.run_pure, Oper.upon]
    exact ⟨_, rfl, Below.refl _ _, fun e he => by rw [hd] at he; injection he with he; subst he; exact h _ _ (hsp s hs)⟩⟩
theorem opOk_assign (hop : o.op = .assign (.tmp s)) (hd : o.dst = some d) (hg : GOk ops SP o) (hs : waitsB .any ops o s = true) (h : ∀ v w, SP s v w → SP d v w) : OpOk P .any ops Q SP a0 w0 o :=
  fun a w _ _ _ hsp => ⟨wanted_of hg hsp, by
    unfold Oper.wp execOp
    simp only [hop, Sem.run_pure, Oper.upon]
    exact ⟨_, rfl, Below.refl _ _, fun e he => by rw [hd] at he; injection he with he; subst he; exact h _ _ (hsp s hs)⟩⟩
theorem opOk_load {ty : TypeId} {p : Addr} (hop : o.op = .load ty (.tmp s)) (hd : o.dst = some d) (hg : GOk ops SP o) (hs : waitsB .any ops o s = true) (h1 : ∀ v w, SP s v w → v = .pointer (some p))
    (h : ∀ w, Below w0.heap.size w0 w → ∃ v, (Instr.loadAt ty (.pointer (some p))).run P w = .ok v w ∧ SP d v w) : OpOk P .any ops Q SP a0 w0 o :=
  fun a w hb _ _ hsp => ⟨wanted_of hg hsp, by
    have h3 : a.eval (.tmp s) = .pointer (some p) := h1 _ _ (hsp s hs)
    obtain ⟨v, hv, hsv⟩ := h w hb
    unfold Oper.wp execOp
    simp only [hop, h3, Sem.run_bind, hv, Result.andThen_ok, Sem.run_pure, Oper.upon]
    exact ⟨_, rfl, Below.refl _ _, fun e he => by rw [hd] at he; injection he with he; subst he; exact hsv⟩⟩
end
end Go.Proofs.YtgepbkldgnjpfaaGreatDoor

namespace Go.Proofs.YtgepbkldgnjpfaaGreatDoor
open Go.RowKit

theorem opsK_cons {o : Oper} {l : List Oper} {n : Nat} {q : Nat → Oper → Prop} (h : q n o) (k : ∀ (i : Nat) (o : Oper), l[i]? = some o → q (n + 1 + i) o) : ∀ (i : Nat) (o' : Oper), (o :: l)[i]? = some o' → q (n + i) o' := fun i o' ho => by
  cases i with
  | zero =>
    have e : o = o' := by simpa using ho
    subst e
    exact h
  | succ i =>
    have := k i o' (by simpa using ho)
    rwa [show n + 1 + i = n + (i + 1) by omega] at this
theorem opsK_all {l : List Oper} {q : Nat → Oper → Prop} (h : ∀ (i : Nat) (o : Oper), l[i]? = some o → q (0 + i) o) : ∀ (i : Nat) (o : Oper), l.toArray[i]? = some o → q i o := fun i o ho => by
  have := h i o (by simpa using ho)
  rwa [Nat.zero_add] at this
theorem opsK_nil {n : Nat} {q : Nat → Oper → Prop} : ∀ (i : Nat) (o : Oper), ([] : List Oper)[i]? = some o → q (n + i) o := fun i o ho => by simp at ho
section
variable {P : Program} {ops : Array Oper} {Q : Exit → Act → World → Prop} {SP : Nat → Value → World → Prop} {ms : List Mk} {a0 : Act} {w0 : World} {o : Oper} {i d s u f : Nat}
theorem kind_n (h : OpOk P .any ops Q SP a0 w0 o) (hn : ∀ p ∈ ms, p.ia ≠ i ∧ p.is ≠ i ∧ o.dst ≠ some p.d) : KindOk P ops Q SP ms a0 w0 i o := .inl ⟨h, hn⟩
/-- An operation that yields a value and leaves the world as it is. -/
theorem opOk_run (hd : o.dst = some d) (hg : GOk ops SP o) (h : ∀ (a : Act) (w : World), Below w0.heap.size w0 w → (∀ t, waitsB .any ops o t = true → SP t (a.tmps.getD t undef) w) → ∃ v, (execOp a.eval o).run P w = .ok (.value v) w ∧ SP d v w) : OpOk P .any ops Q SP a0 w0 o :=
  fun a w hb _ _ hsp => ⟨wanted_of hg hsp, by
    obtain ⟨v, hr, hs⟩ := h a w hb hsp
    unfold Oper.wp
    rw [hr]
    exact ⟨v, rfl, Below.refl _ _, fun e he => by rw [hd] at he; injection he with he; subst he; exact hs⟩⟩
end
end Go.Proofs.YtgepbkldgnjpfaaGreatDoor

namespace Go.Proofs.YtgepbkldgnjpfaaGreatDoor
open Go.RowKit

/-- What a slot holds; it stays while what lay below stays. -/
structure Sp where
  p : Value → World → Prop
  st : ∀ v w w', p v w → Below w.heap.size w w' → p v w'
/-- A slot that holds one value. -/
def Sp.val (x : Value) : Sp := ⟨fun v _ => v = x, fun _ _ _ h _ => h⟩
def SPS (tbl : List (Nat × Sp)) (t : Nat) (v : Value) (w : World) : Prop := ∀ s, tbl.lookup t = some s → s.p v w
theorem SPS.st (tbl : List (Nat × Sp)) : ∀ t v w w', SPS tbl t v w → Below w.heap.size w w' → SPS tbl t v w' := fun _ v w w' h hb s hs => s.st v w w' (h s hs) hb
theorem sps {tbl : List (Nat × Sp)} {t : Nat} {s : Sp} {v : Value} {w : World} (e : tbl.lookup t = some s) (k : s.p v w) : SPS tbl t v w := fun s' h' => by rw [e] at h'; cases h'; exact k
theorem SPS.get {tbl : List (Nat × Sp)} {t : Nat} {v : Value} {w : World} (h : SPS tbl t v w) {s : Sp} (e : tbl.lookup t = some s) : s.p v w := h s e
/-- The slots that no operation yields into hold what the table says, if those that the table names among them do. -/
theorem sps_start {ops : Array Oper} {tbl : List (Nat × Sp)} {a0 : Act} {w0 : World} (h : ∀ p ∈ tbl.filter (fun p => noDstB ops p.1), p.2.p (a0.tmps.getD p.1 undef) w0) : ∀ t, noDstB ops t = true → SPS tbl t (a0.tmps.getD t undef) w0 := by
  intro t ht s hs
  have : (t, s) ∈ tbl := by
    clear h ht
    induction tbl with
    | nil => cases hs
    | cons q r ih =>
      obtain ⟨u, y⟩ := q
      rw [List.lookup_cons] at hs
      by_cases hu : t = u
      · subst hu
        simp at hs
        subst hs
        exact List.mem_cons_self ..
      · have e : (t == u) = false := beq_eq_false_iff_ne.2 hu
        rw [e] at hs
        exact List.mem_cons_of_mem _ (ih hs)
  exact h (t, s) (List.mem_filter.2 ⟨this, ht⟩)
theorem nil_all {α : Type} {q : α → Prop} : ∀ p ∈ ([] : List α), q p := fun _ h => by cases h
theorem cons_all {α : Type} {q : α → Prop} {x : α} {l : List α} (h : q x) (k : ∀ p ∈ l, q p) : ∀ p ∈ x :: l, q p := fun p hp => by
  rcases List.mem_cons.1 hp with rfl | hp
  · exact h
  · exact k p hp
variable {P : Program} {ops : Array Oper} {Q : Exit → Act → World → Prop} {SP : Nat → Value → World → Prop} {a0 : Act} {w0 : World} {o : Oper} {d : Nat}
theorem exec_call {o : Oper} {f : Nat} {ags : Array Operand} {ats : Array TypeId} (hop : o.op = .call { callee := .value (.func f), args := ags, argTypes := ats }) (a : Act) : execOp a.eval o = callFunc f (ags.map a.eval) := by
  obtain ⟨dst, op, ty, pos, after, guard⟩ := o
  simp only at hop
  subst hop
  refine Eq.trans (show _ = callFunc f (#[] ++ ags.map a.eval ++ #[]) from rfl) ?_
  simp
theorem opOk_callg {f : Nat} {ags : Array Operand} {ats : Array TypeId} (argv : Act → Array Value) (hop : o.op = .call { callee := .value (.func f), args := ags, argTypes := ats }) (hd : o.dst = some d) (hg : GOk ops SP o) (hargs : ∀ a : Act, ags.map a.eval = argv a) (hent : ∀ args w, (callFunc f args).run P w = .ok (.enter f args) w)
    (h : ∀ (a : Act) w, Below w0.heap.size w0 w → (∀ t, waitsB .any ops o t = true → SP t (a.tmps.getD t undef) w) → Calls P f (argv a) w fun e w' => ∃ v, e = .returned v ∧ Below w.heap.size w w' ∧ SP d v w') : OpOk P .any ops Q SP a0 w0 o :=
  fun a w hb _ _ hsp => ⟨wanted_of hg hsp, by
    unfold Oper.wp
    rw [exec_call hop a, hargs a, hent]
    refine (h a w hb hsp).mono ?_
    rintro e w' ⟨v, rfl, hb', hsv⟩
    exact ⟨_, rfl, hb', fun e he => by rw [hd] at he; injection he with he; subst he; exact hsv⟩⟩
end Go.Proofs.YtgepbkldgnjpfaaGreatDoor

namespace Go.Proofs.YtgepbkldgnjpfaaGreatDoor
open Go.RowKit

/-- No operation that yields into slot t waits for operation i. -/
def earlyB (ops : Array Oper) (i t : Nat) : Bool := ops.toList.all fun o => !(o.dst == some t) || !(o.after.any fun e => Region.binds .any e && e.on == i)
/-- Operation j waits for operation i. -/
def edgeB (ops : Array Oper) (j i : Nat) : Bool := match ops[j]? with
  | some o => o.after.any fun e => Region.binds .any e && e.on == i
  | none => false
/-- What is asked of operation i; (t, j) in ks: behind operation j nothing more is known of slot t. -/
def OpOkE (P : Program) (ops : Array Oper) (Q : Exit → Act → World → Prop) (SP : Nat → Value → World → Prop) (ks : List (Nat × Nat)) (a0 : Act) (w0 : World) (i : Nat) (o : Oper) : Prop :=
  ∀ (a : Act) (w : World), Below w0.heap.size w0 w → a.tmps.size = a0.tmps.size → a.defers = a0.defers → (∀ t, waitsB .any ops o t = true → (∀ j, (t, j) ∈ ks → j = i ∨ edgeB ops j i = true) → SP t (a.tmps.getD t undef) w) →
    (Region.wanted o (yielded ops a.tmps) = true ∧ o.wp P a w (fun a' w' => ∃ v, a' = a.put o.dst v ∧ Below w0.heap.size w0 w' ∧ (∀ t, o.dst ≠ some t → earlyB ops i t = true → (t, i) ∉ ks → SP t (a.tmps.getD t undef) w → SP t (a.tmps.getD t undef) w') ∧ ∀ d, o.dst = some d → SP d v w') Q) ∨
    (Region.wanted o (yielded ops a.tmps) = false ∧ ∀ d, o.dst = some d → SP d undef w)
structure RInvE (ops : Array Oper) (SP : Nat → Value → World → Prop) (ks : List (Nat × Nat)) (a0 : Act) (w0 : World) (listed : Array Bool) (a : Act) (w : World) : Prop where
  bel : Below w0.heap.size w0 w
  size : a.tmps.size = a0.tmps.size
  defs : a.defers = a0.defers
  kp : ∀ t : Nat, noDstB ops t = true → a.tmps.getD t undef = a0.tmps.getD t undef
  cl : ∀ (i : Nat) (o : Oper), ops[i]? = some o → listed.getD i false = true → ∀ e ∈ o.after, Region.binds .any e = true → listed.getD e.on false = true
  sp : ∀ t : Nat, (∀ (i : Nat) (o : Oper), ops[i]? = some o → o.dst = some t → listed.getD i false = true) → (∀ j, (t, j) ∈ ks → listed.getD j false = false) → SP t (a.tmps.getD t undef) w
section
variable {P : Program} {ops : Array Oper} {Q : Exit → Act → World → Prop} {SP : Nat → Value → World → Prop} {ks : List (Nat × Nat)} {a0 : Act} {w0 : World}
theorem rinvE_op
    (hsz : ∀ (i : Nat) (o : Oper) d, ops[i]? = some o → o.dst = some d → d < a0.tmps.size)
    (i : Nat) (o : Oper) (hoi : ops[i]? = some o) (hk : OpOkE P ops Q SP ks a0 w0 i o) (listed : Array Bool) (a : Act) (w : World) (_ : listed.size = ops.size) (hli : listed.getD i false = false) (haft : ∀ e ∈ o.after, Region.binds .any e = true → listed.getD e.on false = true) (hI : RInvE ops SP ks a0 w0 listed a w) :
      (Region.wanted o (yielded ops a.tmps) = true ∧ o.wp P a w (fun a' w' => RInvE ops SP ks a0 w0 (listed.setIfInBounds i true) a' w') Q) ∨ (Region.wanted o (yielded ops a.tmps) = false ∧ RInvE ops SP ks a0 w0 (listed.setIfInBounds i true) (a.put o.dst undef) w) := by
  have hcl : ∀ (j : Nat) (oj : Oper), ops[j]? = some oj → (listed.setIfInBounds i true).getD j false = true → ∀ e ∈ oj.after, Region.binds .any e = true → (listed.setIfInBounds i true).getD e.on false = true := by
    intro j oj hj hlj e he hb
    have hup : ∀ m : Nat, listed.getD m false = true → (listed.setIfInBounds i true).getD m false = true := by
      intro m hm
      by_cases him : i = m
      · subst him
        rw [hli] at hm; cases hm
      · rw [getD_set_ne false him]; exact hm
    rcases set_get hlj with rfl | h
    · rw [hoi] at hj
      injection hj with hj
      subst hj
      exact hup _ (haft e he hb)
    · exact hup _ (hI.cl j oj hj h e he hb)
  have hedge : ∀ (j : Nat) (oj : Oper), ops[j]? = some oj → (oj.after.any fun e => Region.binds .any e && e.on == i) = true → listed.getD j false = false := by
    intro j oj hj hany
    rw [← Bool.not_eq_true]
    intro hlj
    rw [Array.any_eq_true] at hany
    obtain ⟨x, hx, he2⟩ := hany
    rw [Bool.and_eq_true, beq_iff_eq] at he2
    have := hI.cl j oj hj hlj _ (Array.getElem_mem hx) he2.1
    rw [he2.2, hli] at this
    cases this
  have hil : i < listed.size ∨ ¬ i < listed.size := Decidable.em _
  have hkk := hk a w hI.bel hI.size hI.defs fun t ht hkt => hI.sp t (waits_all ht haft) fun j hj => by
    rcases hkt j hj with rfl | h
    · exact hli
    · unfold edgeB at h
      cases hoj : ops[j]? with
      | none => rw [hoj] at h; cases h
      | some oj => rw [hoj] at h; exact hedge j oj hoj h
  have fin : ∀ (v : Value) (w' : World), Below w0.heap.size w0 w' → (∀ t, o.dst ≠ some t → earlyB ops i t = true → (t, i) ∉ ks → SP t (a.tmps.getD t undef) w → SP t (a.tmps.getD t undef) w') → (∀ d, o.dst = some d → SP d v w') → RInvE ops SP ks a0 w0 (listed.setIfInBounds i true) (a.put o.dst v) w' := by
    intro v w' hb hkeep hs
    have hgt : ∀ t : Nat, o.dst ≠ some t → (a.put o.dst v).tmps.getD t undef = a.tmps.getD t undef := by
      intro t ht
      cases hd2 : o.dst with
      | none => rfl
      | some d => exact put_get (fun e => ht (by rw [hd2, e]))
    refine ⟨hb, ?_, ?_, fun t ht => ?_, hcl, fun t ht hkt => ?_⟩
    · rw [← hI.size]; unfold Act.put; split <;> simp
    · rw [← hI.defs]; unfold Act.put; split <;> rfl
    · rw [hgt t (fun hd => noDst_ne ht hoi hd rfl)]; exact hI.kp t ht
    · by_cases hd : o.dst = some t
      · rw [hd, put_here (by rw [hI.size]; exact hsz i o t hoi hd)]
        exact hs t hd
      · rw [hgt t hd]
        have hall : ∀ (j : Nat) (oj : Oper), ops[j]? = some oj → oj.dst = some t → listed.getD j false = true := by
          intro j oj hj hdj
          rcases set_get (ht j oj hj hdj) with rfl | h
          · rw [hoi] at hj
            injection hj with hj
            rw [hj] at hd
            exact absurd hdj hd
          · exact h
        have hin : i < listed.size := by
          have := (Array.getElem?_eq_some_iff.1 hoi).1
          omega
        refine hkeep t hd ?_ (fun hmem => ?_) (hI.sp t hall fun j hj => ?_)
        · unfold earlyB
          rw [List.all_eq_true]
          intro oj hoj
          obtain ⟨j, hj⟩ := List.getElem?_of_mem hoj
          rw [Array.getElem?_toList] at hj
          by_cases hdj : oj.dst = some t
          · have h1 := hall j oj hj hdj
            cases hany : oj.after.any fun e => Region.binds .any e && e.on == i with
            | true => rw [hedge j oj hj hany] at h1; cases h1
            | false => simp
          · simp [hdj]
        · have := hkt i hmem
          simp [Array.getD, hin] at this
        · have := hkt j hj
          rw [← Bool.not_eq_true]
          intro hlj
          by_cases hij : i = j
          · subst hij; rw [hli] at hlj; cases hlj
          · rw [getD_set_ne false hij, hlj] at this
            cases this
  rcases hkk with ⟨hw, hwp⟩ | ⟨hw, hs⟩
  · refine .inl ⟨hw, Oper.wp_mono (fun a' w' => ?_) hwp⟩
    rintro ⟨v, rfl, hb, hkeep, hs⟩
    exact fin v w' hb hkeep hs
  · exact .inr ⟨hw, fin undef w hI.bel (fun _ _ _ _ h => h) hs⟩
end
/-- A drawn region by what its slots hold; an operation may use some up. -/
theorem wp_region_use {P : Program} {id : Nat} {ops : Array Oper} {Q : Exit → Act → World → Prop} {a0 : Act} {w0 : World} (SP : Nat → Value → World → Prop) (ks : List (Nat × Nat)) (ds : List Nat) (hds : dsts2 ops = ds) (hm : P.follows .mixedOrders = true) (he : earlierC ops = true)
    (hst : ∀ t v w w', SP t v w → Below w.heap.size w w' → SP t v w')
    (hsz : (ops.toList.all fun o => match o.dst with | some d => decide (d < a0.tmps.size) | none => true) = true)
    (h0 : ∀ t, noDstB ops t = true → SP t (a0.tmps.getD t undef) w0)
    (hop : ∀ (i : Nat) (o : Oper), ops[i]? = some o → OpOkE P ops Q SP ks a0 w0 i o)
    (hend : ∀ (vs : Nat → Value) w, Below w0.heap.size w0 w → (∀ t, (∀ j, (t, j) ∉ ks) → SP t (vs t) w) → Q .normal (putAll vs ds a0) w) : (Code.region id ops true).wp P Q a0 w0 := by
  have hsz' : ∀ (i : Nat) (o : Oper) d, ops[i]? = some o → o.dst = some d → d < a0.tmps.size := by
    intro i o d ho hd
    rw [List.all_eq_true] at hsz
    have := hsz o (by
      have := Array.mem_of_getElem? ho
      simpa using this)
    rw [hd] at this
    exact of_decide_eq_true this
  have hnone : ∀ j : Nat, (Array.replicate ops.size false).getD j false = true → False := by
    intro j h
    by_cases hj : j < ops.size
    · simp [Array.getD, hj] at h
    · simp [Array.getD, hj] at h
  refine wp_region_inv (RInvE ops SP ks a0 w0) hm he ⟨bDrew w0, rfl, rfl, fun _ _ => rfl, fun i o ho hl => (hnone i hl).elim, fun t ht _ => ?_⟩ (fun i o ho listed a w hls hli haft hI => rinvE_op hsz' i o ho (hop i o ho) listed a w hls hli haft hI) ?_
  · refine hst _ _ _ _ (h0 t ?_) (bDrew w0)
    unfold noDstB
    rw [List.all_eq_true]
    intro o ho
    by_cases hd : o.dst = some t
    · exfalso
      have hmem : o ∈ ops := by simpa using ho
      obtain ⟨i, hi, hio⟩ := Array.mem_iff_getElem.1 hmem
      exact hnone i (ht i o (by rw [Array.getElem?_eq_getElem hi, hio]) hd)
    · simp [hd]
  · intro listed a w hdone hI
    have hsp : ∀ t, (∀ j, (t, j) ∉ ks) → SP t (a.tmps.getD t undef) w := fun t htk => hI.sp t (fun i o ho _ => hdone i (Array.getElem?_eq_some_iff.1 ho).1) fun j hj => absurd hj (htk j)
    have e : a = putAll (fun t => a.tmps.getD t undef) ds a0 := by
      rw [← hds]
      have e1 : a.tmps = (putAll (fun t => a.tmps.getD t undef) (dsts2 ops) a0).tmps := by
        apply Array.ext_getElem?
        intro t
        by_cases ht : t < a0.tmps.size
        · rw [putAll_get _ _ _ _ ht]
          have hts := hI.size
          have h1 : a.tmps[t]? = some (a.tmps.getD t undef) := by
            rw [Array.getD_eq_getD_getElem?, Array.getElem?_eq_getElem (by omega)]; rfl
          by_cases hm2 : t ∈ dsts2 ops
          · rw [if_pos hm2]; exact h1
          · rw [if_neg hm2, h1]
            have hn : noDstB ops t = true := by
              unfold noDstB
              rw [List.all_eq_true]
              intro o ho
              by_cases hd2 : o.dst = some t
              · exact absurd (List.mem_filterMap.2 ⟨o, ho, hd2⟩) hm2
              · simp [hd2]
            rw [hI.kp t hn, Array.getD_eq_getD_getElem?, Array.getElem?_eq_getElem ht]
            rfl
        · have hts := hI.size
          rw [Array.getElem?_eq_none (by omega), Array.getElem?_eq_none (by rw [putAll_size]; omega)]
      have e2 : a.defers = (putAll (fun t => a.tmps.getD t undef) (dsts2 ops) a0).defers := by rw [putAll_defers]; exact hI.defs
      generalize putAll (fun t => a.tmps.getD t undef) (dsts2 ops) a0 = b at e1 e2
      cases a; cases b
      simp only at e1 e2
      rw [e1, e2]
    have h := hend (fun t => a.tmps.getD t undef) w hI.bel hsp
    rwa [← e] at h
section
variable {P : Program} {ops : Array Oper} {Q : Exit → Act → World → Prop} {SP : Nat → Value → World → Prop} {ks : List (Nat × Nat)} {a0 : Act} {w0 : World} {o : Oper} {i : Nat}
theorem lookup_dead {dead : List Nat} {t : Nat} : ∀ tbl : List (Nat × Sp), (tbl.filter fun p => !dead.contains p.1).lookup t = if dead.contains t = true then none else tbl.lookup t
  | [] => by simp
  | (u, y) :: r => by
    have ih := lookup_dead (dead := dead) (t := t) r
    rw [List.filter_cons]
    by_cases hu : dead.contains u = true
    · rw [if_neg (by simpa using hu), ih]
      by_cases ht : dead.contains t = true
      · rw [if_pos ht, if_pos ht]
      · have e : (t == u) = false := beq_eq_false_iff_ne.2 fun h => ht (h ▸ hu)
        rw [if_neg ht, if_neg ht, List.lookup_cons, e]
    · rw [if_pos (by simpa using hu), List.lookup_cons, List.lookup_cons, ih]
      by_cases htu : t = u
      · subst htu
        simp only [beq_self_eq_true, if_neg hu]
      · have e : (t == u) = false := beq_eq_false_iff_ne.2 htu
        rw [e]
/-- The same, where some slots are used up already. -/
theorem use_s {tbl : List (Nat × Sp)} (dead : List Nat) (h : OpOk P .any ops Q (SPS (tbl.filter fun p => !dead.contains p.1)) a0 w0 o) (hk : ks.all (fun p => dead.contains p.1 || !(waitsB .any ops o p.1) || p.2 == i || edgeB ops p.2 i) = true) (hd : (match o.dst with | some d => !dead.contains d | none => true) = true) : OpOkE P ops Q (SPS tbl) ks a0 w0 i o := by
  intro a w hb hs hdf hsp
  obtain ⟨hw, hwp⟩ := h a w hb hs hdf fun t ht => by
    by_cases htd : dead.contains t = true
    · intro s e
      rw [lookup_dead, if_pos htd] at e
      cases e
    · intro s e
      rw [lookup_dead, if_neg htd] at e
      refine hsp t ht (fun j hj => ?_) s e
      rw [List.all_eq_true] at hk
      have := hk (t, j) hj
      simp only [htd, ht, Bool.not_true, Bool.false_or, Bool.or_eq_true, beq_iff_eq, Bool.or_false] at this
      simpa using this
  refine .inl ⟨hw, Oper.wp_mono (fun a' w' => ?_) hwp⟩
  rintro ⟨v, rfl, hb', hv⟩
  refine ⟨v, rfl, bTrans hb hb', fun t _ _ _ h => SPS.st tbl _ _ _ _ h hb', fun d e => ?_⟩
  have h2 := hv d e
  rw [e] at hd
  intro s hs2
  refine h2 s ?_
  rw [lookup_dead, if_neg (by simpa using hd)]
  exact hs2
/-- An operation whose guard is not met. -/
theorem use_skip {tbl : List (Nat × Sp)} {g e : Nat} {b : Bool} (hg : o.guard = some (g, b)) (he : (ops[g]?).bind (·.dst) = some e) (hw : waitsB .any ops o e = true) (hk : ks.all (fun p => !(p.1 == e)) = true) (h : ∀ v w, SPS tbl e v w → v = .bool (!b)) (hd : ∀ d, o.dst = some d → tbl.lookup d = none) : OpOkE P ops Q (SPS tbl) ks a0 w0 i o := by
  intro a w hb hs hdf hsp
  have h5 := h _ _ (hsp e hw fun j hj => by
    rw [List.all_eq_true] at hk
    have := hk (e, j) hj
    simp at this)
  have h6 : a.tmps[e]? = some (.bool !b) := by
    rw [Array.getD_eq_getD_getElem?] at h5
    cases h7 : a.tmps[e]? with
    | none => rw [h7] at h5; cases h5
    | some x => rw [h7] at h5; simpa using h5
  refine .inr ⟨by cases b <;> simp [Region.wanted, hg, yielded, he, h6], fun d e s hs => ?_⟩
  rw [hd d e] at hs
  cases hs
end
end Go.Proofs.YtgepbkldgnjpfaaGreatDoor
