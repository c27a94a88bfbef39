import Derived.Test.YtdkbbngedjiheaaGreatDoorBase
import Derived.Orders
import Derived.RegionTactic
import Derived.WalkKit
/- A region that draws its order, by what each of its operations yields: each operation is looked at once, whatever the order; one whose guard is not met is passed over. -/
namespace Go.Proofs.YtdkbbngedjiheaaGreatDoor
open Go.RowKit

/-- Every operation that yields into slot t is one that o waits for. -/
def waits2 (md : Region.Mode) (ops : Array Oper) (o : Oper) (t : Nat) : Bool :=
  ops.toList.zipIdx.all fun p => !(p.1.dst == some t) || o.after.any fun e => Region.binds md e && e.on == p.2
/-- No operation yields into slot t. -/
def noDst2 (ops : Array Oper) (t : Nat) : Bool := ops.toList.all fun o => !(o.dst == some t)
/-- Each operation waits for earlier ones alone. -/
def earlier2 (ops : Array Oper) : Bool := ops.toList.zipIdx.all fun p => p.1.after.all fun e => decide (e.on < p.2)

/-- What is asked of operation i; kl tells, of a slot, the operation behind which nothing more is known of it. -/
def OpOk2 (P : Program) (md : Region.Mode) (ops : Array Oper) (Q : Exit → Act → World → Prop) (SP : Nat → Value → World → Prop) (kl : Nat → Option Nat) (a0 : Act) (w0 : World) (i : Nat) (o : Oper) : Prop :=
  ∀ (a : Act) (w : World), Below w0.heap.size w0 w → a.tmps.size = a0.tmps.size → a.defers = a0.defers → (∀ t, waits2 md ops o t = true → kl t = none ∨ kl t = some i → SP t (a.tmps.getD t undef) w) →
    (Region.wanted o (yielded ops a.tmps) = true ∧ o.wp P a w (fun a' w' => ∃ v, a' = a.put o.dst v ∧ Below w0.heap.size w0 w' ∧ (∀ t, o.dst ≠ some t → (∀ j, kl t = some j → j ≠ i ∧ (o.after.any fun e => Region.binds md e && e.on == j) = false) → SP t (a.tmps.getD t undef) w → SP t (a.tmps.getD t undef) w') ∧ ∀ d, o.dst = some d → SP d v w') Q) ∨
    (Region.wanted o (yielded ops a.tmps) = false ∧ ∀ d, o.dst = some d → SP d undef w)

/-- What holds on the way. -/
structure RInv2 (ops : Array Oper) (SP : Nat → Value → World → Prop) (kl : Nat → Option Nat) (a0 : Act) (w0 : World) (listed : Array Bool) (a : Act) (w : World) : Prop where
  bel : Below w0.heap.size w0 w
  size : a.tmps.size = a0.tmps.size
  defs : a.defers = a0.defers
  lst : listed.size = ops.size
  kp : ∀ t : Nat, noDst2 ops t = true → a.tmps.getD t undef = a0.tmps.getD t undef
  sp : ∀ t : Nat, (∀ (i : Nat) (o : Oper), ops[i]? = some o → o.dst = some t → listed.getD i false = true) → (∀ j, kl t = some j → listed.getD j false = false) → SP t (a.tmps.getD t undef) w

theorem count_set2 {l : Array Bool} {i : Nat} (h : l[i]? = some false) : (l.setIfInBounds i true).toList.count false + 1 = l.toList.count false := by
  have hi : i < l.size := (Array.getElem?_eq_some_iff.1 h).1
  have h2 : l.toList[i]? = some false := by simpa using h
  rw [Array.toList_setIfInBounds]
  obtain ⟨A, B, hA, hB⟩ : ∃ A B, l.toList = A ++ false :: B ∧ A.length = i := by
    refine ⟨l.toList.take i, l.toList.drop (i + 1), ?_, by simp; omega⟩
    have hl : i < l.toList.length := by rw [Array.length_toList]; exact hi
    have h3 : l.toList.drop i = l.toList[i] :: l.toList.drop (i + 1) := List.drop_eq_getElem_cons hl
    have h4 : l.toList[i] = false := by
      obtain ⟨_, h5⟩ := List.getElem?_eq_some_iff.1 h2
      exact h5
    rw [h4] at h3
    rw [← h3, List.take_append_drop]
  rw [hA, ← hB, List.set_append_right _ _ (Nat.le_refl _), Nat.sub_self]
  simp [List.count_append]
  (try omega)

section
variable {P : Program} {ops : Array Oper} {Q : Exit → Act → World → Prop} {SP : Nat → Value → World → Prop} {kl : Nat → Option Nat} {a0 : Act} {w0 : World}
theorem wpAny_spec2 (he : earlier2 ops = true)
    (hsz : ∀ (i : Nat) (o : Oper) d, ops[i]? = some o → o.dst = some d → d < a0.tmps.size)
    (hop : ∀ (i : Nat) (o : Oper), ops[i]? = some o → OpOk2 P .any ops Q SP kl a0 w0 i o)
    (hend : ∀ a w, Below w0.heap.size w0 w → a.tmps.size = a0.tmps.size → a.defers = a0.defers → (∀ t, noDst2 ops t = true → a.tmps.getD t undef = a0.tmps.getD t undef) → (∀ t, kl t = none → SP t (a.tmps.getD t undef) w) → Q .normal a w) :
    ∀ (fuel : Nat) (listed : Array Bool) (a : Act) (w : World), listed.toList.count false ≤ fuel → RInv2 ops SP kl a0 w0 listed a w → wpAny P .any ops Q fuel listed a w := by
  have hall : ∀ (listed : Array Bool) (a : Act) (w : World), RInv2 ops SP kl a0 w0 listed a w → Region.ready .any ops listed = [] → Q .normal a w := by
    intro listed a w hI hr
    have hdone : ∀ i, i < ops.size → listed.getD i false = true := by
      intro i
      induction i using Nat.strongRecOn with
      | _ i ih =>
        intro hi
        by_cases hl : listed.getD i false = true
        · exact hl
        · exfalso
          have hmem : i ∈ Region.ready .any ops listed := by
            unfold Region.ready
            rw [List.mem_filter]
            refine ⟨List.mem_range.2 hi, ?_⟩
            have hil : i < listed.size := by rw [hI.lst]; exact hi
            have hlf : listed.getD i true = false := by
              have : listed.getD i false = listed.getD i true := by simp [Array.getD, hil]
              rw [← this]; simpa using hl
            rw [hlf, Array.getElem?_eq_getElem hi]
            simp only [Bool.not_false, Bool.true_and, Option.map_some, Option.getD_some]
            rw [Array.all_eq_true_iff_forall_mem]
            intro e hm
            have hlt : e.on < i := by
              unfold earlier2 at he
              rw [List.all_eq_true] at he
              have := he (ops[i], i) (by
                rw [List.mem_zipIdx_iff_getElem?]
                simp [hi])
              rw [Array.all_eq_true_iff_forall_mem] at this
              exact of_decide_eq_true (this e hm)
            rw [ih e.on hlt (by omega)]
            simp
          rw [hr] at hmem
          cases hmem
    exact hend a w hI.bel hI.size hI.defs hI.kp fun t hk => hI.sp t (fun i o ho _ => hdone i (Array.getElem?_eq_some_iff.1 ho).1) (fun j hj => by rw [hk] at hj; cases hj)
  intro fuel
  induction fuel with
  | zero =>
    intro listed a w hc hI
    have hr : Region.ready .any ops listed = [] := by
      rw [List.eq_nil_iff_forall_not_mem]
      intro i hi
      unfold Region.ready at hi
      rw [List.mem_filter] at hi
      have h1 := List.mem_range.1 hi.1
      have h2 := hi.2
      rw [Bool.and_eq_true] at h2
      have hil : i < listed.size := by rw [hI.lst]; exact h1
      have : listed[i] = false := by
        have h3 := h2.1
        simpa [Array.getD, hil] using h3
      have h4 : false ∈ listed.toList := by
        rw [← this]
        exact Array.getElem_mem_toList hil
      have := List.count_pos_iff.2 h4
      omega
    exact ⟨hr, hall listed a w hI hr⟩
  | succ fuel ih =>
    intro listed a w hc hI
    refine ⟨hall listed a w hI, fun i hi => ?_⟩
    unfold Region.ready at hi
    rw [List.mem_filter] at hi
    have h1 := List.mem_range.1 hi.1
    have h2 := hi.2
    rw [Bool.and_eq_true] at h2
    have hil : i < listed.size := by rw [hI.lst]; exact h1
    have hli : listed[i] = false := by simpa [Array.getD, hil] using h2.1
    have hoi : ops[i]? = some ops[i] := Array.getElem?_eq_getElem h1
    have haft : ∀ e ∈ ops[i].after, Region.binds .any e = true → listed.getD e.on false = true := by
      intro e hm hb
      have h3 := h2.2
      rw [hoi] at h3
      simp only [Option.map_some, Option.getD_some] at h3
      rw [Array.all_eq_true_iff_forall_mem] at h3
      have := h3 e hm
      rw [hb] at this
      simpa using this
    have hcase := hop i ops[i] hoi a w hI.bel hI.size hI.defs fun t ht hkt => hI.sp t (fun j oj hj hd => by
      unfold waits2 at ht
      rw [List.all_eq_true] at ht
      have hm := ht (oj, j) (by
        rw [List.mem_zipIdx_iff_getElem?]
        simpa using hj)
      rw [hd] at hm
      simp only [beq_self_eq_true, Bool.not_true, Bool.false_or] at hm
      rw [Array.any_eq_true] at hm
      obtain ⟨x, hx, he2⟩ := hm
      rw [Bool.and_eq_true, beq_iff_eq] at he2
      rw [← he2.2]
      exact haft _ (Array.getElem_mem hx) he2.1) (fun j hj => by
      rcases hkt with h | h
      · rw [h] at hj; cases hj
      · rw [h] at hj
        injection hj with hj
        rw [← hj]
        simp [Array.getD, hil, hli])
    have hstep : ∀ v w', Below w0.heap.size w0 w' → (∀ t, ops[i].dst ≠ some t → (∀ j, kl t = some j → j ≠ i ∧ (ops[i].after.any fun e => Region.binds .any e && e.on == j) = false) → SP t (a.tmps.getD t undef) w → SP t (a.tmps.getD t undef) w') → (∀ d, ops[i].dst = some d → SP d v w') → wpAny P .any ops Q fuel (listed.setIfInBounds i true) (a.put ops[i].dst v) w' := by
      intro v w' hb hkeep hs
      refine ih _ _ _ ?_ ⟨hb, ?_, ?_, by rw [Array.size_setIfInBounds]; exact hI.lst, fun t ht => ?_, fun t ht hkl => ?_⟩
      · have := count_set2 (l := listed) (i := i) (by rw [Array.getElem?_eq_getElem hil, hli])
        omega
      · rw [← hI.size]
        unfold Act.put
        split <;> simp
      · rw [← hI.defs]
        unfold Act.put
        split <;> rfl
      · rw [← hI.kp t ht]
        cases hd2 : ops[i].dst with
        | none => rfl
        | some d =>
          have hne : d ≠ t := by
            rintro rfl
            unfold noDst2 at ht
            rw [List.all_eq_true] at ht
            have := ht ops[i] (by simp)
            rw [hd2] at this
            simp at this
          simp [Act.put, Array.getD_eq_getD_getElem?, Array.getElem?_setIfInBounds_ne hne]
      · by_cases hd : ops[i].dst = some t
        · have hlt := hsz i _ t hoi hd
          have : (a.put ops[i].dst v).tmps.getD t undef = v := by
            rw [hd]
            simp [Act.put, Array.getD, hI.size, hlt]
          rw [this]
          exact hs t hd
        · have : (a.put ops[i].dst v).tmps.getD t undef = a.tmps.getD t undef := by
            cases hd2 : ops[i].dst with
            | none => rfl
            | some d =>
              have hne : d ≠ t := fun e => hd (by rw [hd2, e])
              simp [Act.put, Array.getD_eq_getD_getElem?, Array.getElem?_setIfInBounds_ne hne]
          rw [this]
          have hki : ∀ j, kl t = some j → listed.getD j false = false ∧ j ≠ i := by
            intro j hj
            have h5 := hkl j hj
            have hji : i ≠ j := by
              rintro rfl
              simp [Array.getD, hil] at h5
            rw [getD_set_ne false hji] at h5
            exact ⟨h5, Ne.symm hji⟩
          refine hkeep t hd (fun j hj => ⟨(hki j hj).2, ?_⟩) (hI.sp t (fun j oj hj hdj => ?_) (fun j hj => (hki j hj).1))
          · rw [← Bool.not_eq_true, Array.any_eq_true]
            rintro ⟨x, hx, he2⟩
            rw [Bool.and_eq_true, beq_iff_eq] at he2
            have h6 := haft _ (Array.getElem_mem hx) he2.1
            rw [he2.2, (hki j hj).1] at h6
            cases h6
          · have h5 := ht j oj hj hdj
            have hji : i ≠ j := by
              rintro rfl
              rw [hoi] at hj
              injection hj with hj
              rw [hj] at hd
              exact hd hdj
            rwa [getD_set_ne false hji] at h5
    unfold wpOp
    rw [hoi]
    show if Region.wanted ops[i] (yielded ops a.tmps) = true then _ else _
    rcases hcase with ⟨hw, hwp⟩ | ⟨hw, hs⟩
    · rw [if_pos hw]
      refine .inl (Oper.wp_mono (fun a' w' => ?_) hwp)
      rintro ⟨v, rfl, hb, hkp, hs⟩
      exact hstep v w' hb hkp hs
    · rw [if_neg (by rw [hw]; decide)]
      exact hstep undef w hI.bel (fun _ _ _ h => h) hs
end

/-- THE RULE. -/
theorem wp_region_spec2 {P : Program} {id : Nat} {ops : Array Oper} {Q : Exit → Act → World → Prop} {a0 : Act} {w0 : World} (SP : Nat → Value → World → Prop) (kl : Nat → Option Nat) (hm : P.follows .mixedOrders = true)
    (hst : ∀ t v w w', SP t v w → Below w.heap.size w w' → SP t v w') (he : earlier2 ops = true) (hsz : (ops.toList.all fun o => match o.dst with | some d => decide (d < a0.tmps.size) | none => true) = true)
    (h0 : ∀ t, noDst2 ops t = true → SP t (a0.tmps.getD t undef) w0)
    (hop : ∀ (i : Nat) (o : Oper), ops[i]? = some o → OpOk2 P .any ops Q SP kl a0 w0 i o)
    (hend : ∀ a w, Below w0.heap.size w0 w → a.tmps.size = a0.tmps.size → a.defers = a0.defers → (∀ t, noDst2 ops t = true → a.tmps.getD t undef = a0.tmps.getD t undef) → (∀ t, kl t = none → SP t (a.tmps.getD t undef) w) → Q .normal a w) : (Code.region id ops true).wp P Q a0 w0 := by
  refine wp_region_any hm ?_
  refine wpAny_spec2 he ?_ hop hend _ _ _ _ ?_ ⟨bDrew w0, rfl, rfl, by simp, fun _ _ => rfl, fun t ht _ => ?_⟩
  · intro i o d ho hd
    rw [List.all_eq_true] at hsz
    have := hsz o (by
      have := Array.mem_of_getElem? ho
      simpa using this)
    rw [hd] at this
    exact of_decide_eq_true this
  · have := List.count_le_length (a := false) (l := (Array.replicate ops.size false).toList)
    rw [Array.length_toList, Array.size_replicate] at this
    exact this
  · refine hst _ _ _ _ (h0 t ?_) (bDrew w0)
    unfold noDst2
    rw [List.all_eq_true]
    intro o ho
    by_cases hd : o.dst = some t
    · exfalso
      have hmem : o ∈ ops := by simpa using ho
      obtain ⟨i, hi, hio⟩ := Array.mem_iff_getElem.1 hmem
      have := ht i o (by rw [Array.getElem?_eq_getElem hi, hio]) hd
      simp [Array.getD, hi] at this
    · simp [hd]

/-- The frame behind a region: each slot that an operation yields into holds some value. -/
def dsts2 (ops : Array Oper) : List Nat := ops.toList.filterMap (·.dst)
def putAll (vs : Nat → Value) : List Nat → Act → Act
  | [], a => a
  | d :: r, a => putAll vs r (a.put (some d) (vs d))
theorem putAll_size (vs : Nat → Value) : ∀ (l : List Nat) (a : Act), (putAll vs l a).tmps.size = a.tmps.size
  | [], _ => rfl
  | d :: r, a => by rw [putAll, putAll_size vs r]; simp [Act.put]
theorem putAll_defers (vs : Nat → Value) : ∀ (l : List Nat) (a : Act), (putAll vs l a).defers = a.defers
  | [], _ => rfl
  | d :: r, a => by rw [putAll, putAll_defers vs r]; rfl
theorem putAll_get (vs : Nat → Value) (t : Nat) : ∀ (l : List Nat) (a : Act), t < a.tmps.size → (putAll vs l a).tmps[t]? = if t ∈ l then some (vs t) else a.tmps[t]?
  | [], _, _ => by simp [putAll]
  | d :: r, a, h => by
    rw [putAll, putAll_get vs t r _ (by simpa [Act.put] using h)]
    by_cases h1 : t ∈ r
    · simp [h1]
    · by_cases h2 : t = d
      · subst h2
        simp [h1, Act.put, h]
      · have h3 : ¬ t ∈ d :: r := by simp [h1, h2]
        rw [if_neg h1, if_neg h3]
        simp [Act.put, Array.getElem?_setIfInBounds_ne (Ne.symm h2)]
theorem wp_region_put {P : Program} {id : Nat} {ops : Array Oper} {Q : Exit → Act → World → Prop} {a0 : Act} {w0 : World} (SP : Nat → Value → World → Prop) (kl : Nat → Option Nat) (hm : P.follows .mixedOrders = true)
    (hst : ∀ t v w w', SP t v w → Below w.heap.size w w' → SP t v w') (he : earlier2 ops = true) (hsz : (ops.toList.all fun o => match o.dst with | some d => decide (d < a0.tmps.size) | none => true) = true)
    (h0 : ∀ t, noDst2 ops t = true → SP t (a0.tmps.getD t undef) w0)
    (hop : ∀ (i : Nat) (o : Oper), ops[i]? = some o → OpOk2 P .any ops Q SP kl a0 w0 i o)
    (hend : ∀ (vs : Nat → Value) w, Below w0.heap.size w0 w → (∀ t, kl t = none → SP t (vs t) w) → Q .normal (putAll vs (dsts2 ops) a0) w) : (Code.region id ops true).wp P Q a0 w0 := by
  refine wp_region_spec2 SP kl hm hst he hsz h0 hop fun a w hb hs hd hk hsp => ?_
  have e : a = putAll (fun t => a.tmps.getD t undef) (dsts2 ops) a0 := by
    have e1 : a.tmps = (putAll (fun t => a.tmps.getD t undef) (dsts2 ops) a0).tmps := by
      apply Array.ext_getElem?
      intro t
      by_cases ht : t < a0.tmps.size
      · rw [putAll_get _ _ _ _ ht]
        have h1 : a.tmps[t]? = some (a.tmps.getD t undef) := by
          rw [Array.getD_eq_getD_getElem?, Array.getElem?_eq_getElem (by omega)]; rfl
        by_cases hm2 : t ∈ dsts2 ops
        · rw [if_pos hm2]; exact h1
        · rw [if_neg hm2, h1]
          have hn : noDst2 ops t = true := by
            unfold noDst2
            rw [List.all_eq_true]
            intro o ho
            by_cases hd2 : o.dst = some t
            · exact absurd (List.mem_filterMap.2 ⟨o, ho, hd2⟩) hm2
            · simp [hd2]
          rw [hk t hn, Array.getD_eq_getD_getElem?, Array.getElem?_eq_getElem ht]
          rfl
      · rw [Array.getElem?_eq_none (by omega), Array.getElem?_eq_none (by rw [putAll_size]; omega)]
    have e2 : a.defers = (putAll (fun t => a.tmps.getD t undef) (dsts2 ops) a0).defers := by rw [putAll_defers]; exact hd
    generalize putAll (fun t => a.tmps.getD t undef) (dsts2 ops) a0 = b at e1 e2
    cases a; cases b
    simp only at e1 e2
    rw [e1, e2]
  have h := hend (fun t => a.tmps.getD t undef) w hb hsp
  rwa [← e] at h
end Go.Proofs.YtdkbbngedjiheaaGreatDoor
