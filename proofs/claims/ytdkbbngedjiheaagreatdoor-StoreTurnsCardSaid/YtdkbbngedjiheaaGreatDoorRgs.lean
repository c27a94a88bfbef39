import Derived.Test.YtdkbbngedjiheaaGreatDoorBase
import Derived.Orders
import Derived.RegionTactic
/- A region that draws its order, by what each of its operations yields: each operation is looked at once, whatever the order. -/
namespace Go.Proofs.YtdkbbngedjiheaaGreatDoor
open Go.RowKit

/-- Every operation that yields into slot t is one that o waits for. -/
def waitsB (md : Region.Mode) (ops : Array Oper) (o : Oper) (t : Nat) : Bool :=
  ops.toList.zipIdx.all fun p => !(p.1.dst == some t) || o.after.any fun e => Region.binds md e && e.on == p.2
/-- No operation yields into slot t. -/
def noDstB (ops : Array Oper) (t : Nat) : Bool := ops.toList.all fun o => !(o.dst == some t)
/-- Each operation waits for earlier ones alone. -/
def earlierB (ops : Array Oper) : Bool := ops.toList.zipIdx.all fun p => p.1.after.all fun e => decide (e.on < p.2)

/-- What is asked of one operation. -/
def OpOk (P : Program) (md : Region.Mode) (ops : Array Oper) (Q : Exit → Act → World → Prop) (SP : Nat → Value → World → Prop) (a0 : Act) (w0 : World) (o : Oper) : Prop :=
  ∀ (a : Act) (w : World), Below w0.heap.size w0 w → a.tmps.size = a0.tmps.size → a.defers = a0.defers → (∀ t, waitsB md ops o t = true → SP t (a.tmps.getD t undef) w) →
    Region.wanted o (yielded ops a.tmps) = true ∧ o.wp P a w (fun a' w' => ∃ v, a' = a.put o.dst v ∧ Below w.heap.size w w' ∧ ∀ d, o.dst = some d → SP d v w') Q

/-- What holds on the way. -/
structure RInv (ops : Array Oper) (SP : Nat → Value → World → Prop) (a0 : Act) (w0 : World) (listed : Array Bool) (a : Act) (w : World) : Prop where
  bel : Below w0.heap.size w0 w
  size : a.tmps.size = a0.tmps.size
  defs : a.defers = a0.defers
  lst : listed.size = ops.size
  sp : ∀ t : Nat, (∀ (i : Nat) (o : Oper), ops[i]? = some o → o.dst = some t → listed.getD i false = true) → SP t (a.tmps.getD t undef) w

theorem count_set {l : Array Bool} {i : Nat} (h : l[i]? = some false) : (l.setIfInBounds i true).toList.count false + 1 = l.toList.count false := by
  have hi : i < l.size := (Array.getElem?_eq_some_iff.1 h).1
  have h2 : l.toList[i]? = some false := by simpa using h
  rw [Array.toList_setIfInBounds]
  obtain ⟨A, B, hA, hB⟩ : ∃ A B, l.toList = A ++ false :: B ∧ A.length = i := by
    refine ⟨l.toList.take i, l.toList.drop (i + 1), ?_, by simp; omega⟩
    have hl : i < l.toList.length := by rw [Array.length_toList]; exact hi
    have h3 : l.toList.drop i = l.toList[i] :: l.toList.drop (i + 1) := List.drop_eq_getElem_cons hl
    have h4 : l.toList[i] = false := by
      obtain ⟨_, h5⟩ := List.getElem?_eq_some_iff.1 h2
      exact h5
    rw [h4] at h3
    rw [← h3, List.take_append_drop]
  rw [hA, ← hB, List.set_append_right _ _ (Nat.le_refl _), Nat.sub_self]
  simp [List.count_append]
  (try omega)

section
variable {P : Program} {ops : Array Oper} {Q : Exit → Act → World → Prop} {SP : Nat → Value → World → Prop} {a0 : Act} {w0 : World}
theorem wpAny_spec (hst : ∀ t v w w', SP t v w → Below w.heap.size w w' → SP t v w') (he : earlierB ops = true)
    (hsz : ∀ (i : Nat) (o : Oper) d, ops[i]? = some o → o.dst = some d → d < a0.tmps.size)
    (hop : ∀ (i : Nat) (o : Oper), ops[i]? = some o → OpOk P .any ops Q SP a0 w0 o)
    (hend : ∀ a w, Below w0.heap.size w0 w → a.tmps.size = a0.tmps.size → a.defers = a0.defers → (∀ t, SP t (a.tmps.getD t undef) w) → Q .normal a w) :
    ∀ (fuel : Nat) (listed : Array Bool) (a : Act) (w : World), listed.toList.count false ≤ fuel → RInv ops SP a0 w0 listed a w → wpAny P .any ops Q fuel listed a w := by
  have hall : ∀ (listed : Array Bool) (a : Act) (w : World), RInv ops SP a0 w0 listed a w → Region.ready .any ops listed = [] → Q .normal a w := by
    intro listed a w hI hr
    have hdone : ∀ i, i < ops.size → listed.getD i false = true := by
      intro i
      induction i using Nat.strongRecOn with
      | _ i ih =>
        intro hi
        by_cases hl : listed.getD i false = true
        · exact hl
        · exfalso
          have hmem : i ∈ Region.ready .any ops listed := by
            unfold Region.ready
            rw [List.mem_filter]
            refine ⟨List.mem_range.2 hi, ?_⟩
            have hil : i < listed.size := by rw [hI.lst]; exact hi
            have hlf : listed.getD i true = false := by
              have : listed.getD i false = listed.getD i true := by simp [Array.getD, hil]
              rw [← this]; simpa using hl
            rw [hlf, Array.getElem?_eq_getElem hi]
            simp only [Bool.not_false, Bool.true_and, Option.map_some, Option.getD_some]
            rw [Array.all_eq_true_iff_forall_mem]
            intro e hm
            have hlt : e.on < i := by
              unfold earlierB at he
              rw [List.all_eq_true] at he
              have := he (ops[i], i) (by
                rw [List.mem_zipIdx_iff_getElem?]
                simp [hi])
              rw [Array.all_eq_true_iff_forall_mem] at this
              exact of_decide_eq_true (this e hm)
            rw [ih e.on hlt (by omega)]
            simp
          rw [hr] at hmem
          cases hmem
    exact hend a w hI.bel hI.size hI.defs fun t => hI.sp t fun i o ho _ => hdone i (Array.getElem?_eq_some_iff.1 ho).1
  intro fuel
  induction fuel with
  | zero =>
    intro listed a w hc hI
    have hr : Region.ready .any ops listed = [] := by
      rw [List.eq_nil_iff_forall_not_mem]
      intro i hi
      unfold Region.ready at hi
      rw [List.mem_filter] at hi
      have h1 := List.mem_range.1 hi.1
      have h2 := hi.2
      rw [Bool.and_eq_true] at h2
      have hil : i < listed.size := by rw [hI.lst]; exact h1
      have : listed[i] = false := by
        have h3 := h2.1
        simpa [Array.getD, hil] using h3
      have h4 : false ∈ listed.toList := by
        rw [← this]
        exact Array.getElem_mem_toList hil
      have := List.count_pos_iff.2 h4
      omega
    exact ⟨hr, hall listed a w hI hr⟩
  | succ fuel ih =>
    intro listed a w hc hI
    refine ⟨hall listed a w hI, fun i hi => ?_⟩
    unfold Region.ready at hi
    rw [List.mem_filter] at hi
    have h1 := List.mem_range.1 hi.1
    have h2 := hi.2
    rw [Bool.and_eq_true] at h2
    have hil : i < listed.size := by rw [hI.lst]; exact h1
    have hli : listed[i] = false := by simpa [Array.getD, hil] using h2.1
    have hoi : ops[i]? = some ops[i] := Array.getElem?_eq_getElem h1
    have haft : ∀ e ∈ ops[i].after, Region.binds .any e = true → listed.getD e.on false = true := by
      intro e hm hb
      have h3 := h2.2
      rw [hoi] at h3
      simp only [Option.map_some, Option.getD_some] at h3
      rw [Array.all_eq_true_iff_forall_mem] at h3
      have := h3 e hm
      rw [hb] at this
      simpa using this
    obtain ⟨hw, hwp⟩ := hop i ops[i] hoi a w hI.bel hI.size hI.defs fun t ht => hI.sp t fun j oj hj hd => by
      unfold waitsB at ht
      rw [List.all_eq_true] at ht
      have hm := ht (oj, j) (by
        rw [List.mem_zipIdx_iff_getElem?]
        simpa using hj)
      rw [hd] at hm
      simp only [beq_self_eq_true, Bool.not_true, Bool.false_or] at hm
      rw [Array.any_eq_true] at hm
      obtain ⟨x, hx, he2⟩ := hm
      rw [Bool.and_eq_true, beq_iff_eq] at he2
      rw [← he2.2]
      exact haft _ (Array.getElem_mem hx) he2.1
    unfold wpOp
    rw [hoi]
    show if Region.wanted ops[i] (yielded ops a.tmps) = true then _ else _
    rw [if_pos hw]
    refine .inl (Oper.wp_mono (fun a' w' => ?_) hwp)
    rintro ⟨v, rfl, hb, hs⟩
    refine ih _ _ _ ?_ ⟨bTrans hI.bel hb, ?_, ?_, by rw [Array.size_setIfInBounds]; exact hI.lst, fun t ht => ?_⟩
    · have := count_set (l := listed) (i := i) (by rw [Array.getElem?_eq_getElem hil, hli])
      omega
    · rw [← hI.size]
      unfold Act.put
      split <;> simp
    · rw [← hI.defs]
      unfold Act.put
      split <;> rfl
    · by_cases hd : ops[i].dst = some t
      · have hlt := hsz i _ t hoi hd
        have : (a.put ops[i].dst v).tmps.getD t undef = v := by
          rw [hd]
          simp [Act.put, Array.getD, hI.size, hlt]
        rw [this]
        exact hs t hd
      · have : (a.put ops[i].dst v).tmps.getD t undef = a.tmps.getD t undef := by
          cases hd2 : ops[i].dst with
          | none => rfl
          | some d =>
            have hne : d ≠ t := fun e => hd (by rw [hd2, e])
            simp [Act.put, Array.getD_eq_getD_getElem?, Array.getElem?_setIfInBounds_ne hne]
        rw [this]
        refine hst _ _ _ _ (hI.sp t fun j oj hj hdj => ?_) hb
        have h5 := ht j oj hj hdj
        have hji : i ≠ j := by
          rintro rfl
          rw [hoi] at hj
          injection hj with hj
          rw [hj] at hd
          exact hd hdj
        rwa [getD_set_ne false hji] at h5
end

/-- THE RULE. -/
theorem wp_region_spec {P : Program} {id : Nat} {ops : Array Oper} {Q : Exit → Act → World → Prop} {a0 : Act} {w0 : World} (SP : Nat → Value → World → Prop) (hm : P.follows .mixedOrders = true)
    (hst : ∀ t v w w', SP t v w → Below w.heap.size w w' → SP t v w') (he : earlierB ops = true) (hsz : (ops.toList.all fun o => match o.dst with | some d => decide (d < a0.tmps.size) | none => true) = true)
    (h0 : ∀ t, noDstB ops t = true → SP t (a0.tmps.getD t undef) w0)
    (hop : ∀ (i : Nat) (o : Oper), ops[i]? = some o → OpOk P .any ops Q SP a0 w0 o)
    (hend : ∀ a w, Below w0.heap.size w0 w → a.tmps.size = a0.tmps.size → a.defers = a0.defers → (∀ t, SP t (a.tmps.getD t undef) w) → Q .normal a w) : (Code.region id ops true).wp P Q a0 w0 := by
  refine wp_region_any hm ?_
  refine wpAny_spec hst he ?_ hop hend _ _ _ _ ?_ ⟨bDrew w0, rfl, rfl, by simp, fun t ht => ?_⟩
  · intro i o d ho hd
    rw [List.all_eq_true] at hsz
    have := hsz o (by
      have := Array.mem_of_getElem? ho
      simpa using this)
    rw [hd] at this
    exact of_decide_eq_true this
  · have := List.count_le_length (a := false) (l := (Array.replicate ops.size false).toList)
    rw [Array.length_toList, Array.size_replicate] at this
    exact this
  · refine hst _ _ _ _ (h0 t ?_) (bDrew w0)
    unfold noDstB
    rw [List.all_eq_true]
    intro o ho
    by_cases hd : o.dst = some t
    · exfalso
      have hmem : o ∈ ops := by simpa using ho
      obtain ⟨i, hi, hio⟩ := Array.mem_iff_getElem.1 hmem
      have := ht i o (by rw [Array.getElem?_eq_getElem hi, hio]) hd
      simp [Array.getD, hi] at this
    · simp [hd]
end Go.Proofs.YtdkbbngedjiheaaGreatDoor
