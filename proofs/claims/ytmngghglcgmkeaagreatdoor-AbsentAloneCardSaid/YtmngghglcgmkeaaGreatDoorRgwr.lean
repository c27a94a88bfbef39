/- Merged from: Rgw Rgr. -/
import Derived.Test.YtmngghglcgmkeaaGreatDoorRgx
import Derived.Test.YtmngghglcgmkeaaGreatDoorLnb
namespace Go.Proofs.YtmngghglcgmkeaaGreatDoor
open Go.RowKit

/-- What is asked of operation i, over a relation on worlds. -/
def OpOkRW (P : Program) (ops : Array Oper) (Q : Exit → Act → World → Prop) (SP : Nat → Value → World → Prop) (ks : List (Nat × Nat)) (Rl : World → Prop) (a0 : Act) (i : Nat) (o : Oper) : Prop :=
  ∀ (a : Act) (w : World), Rl w → a.tmps.size = a0.tmps.size → a.defers = a0.defers → (∀ t, lateB ops i t = true → a.tmps.getD t undef = a0.tmps.getD t undef) → (∀ t, waitsB .any ops o t = true → (∀ j, (t, j) ∈ ks → j = i ∨ edgeB ops j i = true) → SP t (a.tmps.getD t undef) w) →
    (Region.wanted o (yielded ops a.tmps) = true ∧ o.wp P a w (fun a' w' => ∃ v, a' = a.put o.dst v ∧ Rl w' ∧ (∀ t, o.dst ≠ some t → earlyB ops i t = true → (t, i) ∉ ks → SP t (a.tmps.getD t undef) w → SP t (a.tmps.getD t undef) w') ∧ ∀ d, o.dst = some d → SP d v w') Q) ∨
    (Region.wanted o (yielded ops a.tmps) = false ∧ ∀ d, o.dst = some d → SP d undef w)
structure RInvRW (ops : Array Oper) (SP : Nat → Value → World → Prop) (ks : List (Nat × Nat)) (Rl : World → Prop) (a0 : Act) (listed : Array Bool) (a : Act) (w : World) : Prop where
  bel : Rl w
  size : a.tmps.size = a0.tmps.size
  defs : a.defers = a0.defers
  kp : ∀ t : Nat, (∀ (i : Nat) (o : Oper), ops[i]? = some o → o.dst = some t → listed.getD i false = false) → a.tmps.getD t undef = a0.tmps.getD t undef
  cl : ∀ (i : Nat) (o : Oper), ops[i]? = some o → listed.getD i false = true → ∀ e ∈ o.after, Region.binds .any e = true → listed.getD e.on false = true
  sp : ∀ t : Nat, (∀ (i : Nat) (o : Oper), ops[i]? = some o → o.dst = some t → listed.getD i false = true) → (∀ j, (t, j) ∈ ks → listed.getD j false = false) → SP t (a.tmps.getD t undef) w
section
variable {P : Program} {ops : Array Oper} {Q : Exit → Act → World → Prop} {SP : Nat → Value → World → Prop} {ks : List (Nat × Nat)} {Rl : World → Prop} {a0 : Act}
theorem rinvR_opW
    (hsz : ∀ (i : Nat) (o : Oper) d, ops[i]? = some o → o.dst = some d → d < a0.tmps.size)
    (i : Nat) (o : Oper) (hoi : ops[i]? = some o) (hk : OpOkRW P ops Q SP ks Rl a0 i o) (listed : Array Bool) (a : Act) (w : World) (_ : listed.size = ops.size) (hli : listed.getD i false = false) (haft : ∀ e ∈ o.after, Region.binds .any e = true → listed.getD e.on false = true) (hI : RInvRW ops SP ks Rl a0 listed a w) :
      (Region.wanted o (yielded ops a.tmps) = true ∧ o.wp P a w (fun a' w' => RInvRW ops SP ks Rl a0 (listed.setIfInBounds i true) a' w') Q) ∨ (Region.wanted o (yielded ops a.tmps) = false ∧ RInvRW ops SP ks Rl a0 (listed.setIfInBounds i true) (a.put o.dst undef) w) := by
  have hcl : ∀ (j : Nat) (oj : Oper), ops[j]? = some oj → (listed.setIfInBounds i true).getD j false = true → ∀ e ∈ oj.after, Region.binds .any e = true → (listed.setIfInBounds i true).getD e.on false = true := by
    intro j oj hj hlj e he hb
    have hup : ∀ m : Nat, listed.getD m false = true → (listed.setIfInBounds i true).getD m false = true := by
      intro m hm
      by_cases him : i = m
      · subst him
        rw [hli] at hm; cases hm
      · rw [getD_set_ne false him]; exact hm
    rcases set_get hlj with rfl | h
    · rw [hoi] at hj
      injection hj with hj
      subst hj
      exact hup _ (haft e he hb)
    · exact hup _ (hI.cl j oj hj h e he hb)
  have hedge : ∀ (j : Nat) (oj : Oper), ops[j]? = some oj → (oj.after.any fun e => Region.binds .any e && e.on == i) = true → listed.getD j false = false := by
    intro j oj hj hany
    rw [← Bool.not_eq_true]
    intro hlj
    rw [Array.any_eq_true] at hany
    obtain ⟨x, hx, he2⟩ := hany
    rw [Bool.and_eq_true, beq_iff_eq] at he2
    have := hI.cl j oj hj hlj _ (Array.getElem_mem hx) he2.1
    rw [he2.2, hli] at this
    cases this
  have hil : i < listed.size ∨ ¬ i < listed.size := Decidable.em _
  have hlate : ∀ t, lateB ops i t = true → a.tmps.getD t undef = a0.tmps.getD t undef := fun t ht => hI.kp t fun j oj hj hd => by
    unfold lateB at ht
    rw [List.all_eq_true] at ht
    have hmem : oj ∈ ops.toList := by
      have := Array.mem_of_getElem? hj
      simpa using this
    have h1 := ht oj hmem
    rw [hd] at h1
    simp only [beq_self_eq_true, Bool.not_true, Bool.false_or] at h1
    exact hedge j oj hj h1
  have hkk := hk a w hI.bel hI.size hI.defs hlate fun t ht hkt => hI.sp t (waits_all ht haft) fun j hj => by
    rcases hkt j hj with rfl | h
    · exact hli
    · unfold edgeB at h
      cases hoj : ops[j]? with
      | none => rw [hoj] at h; cases h
      | some oj => rw [hoj] at h; exact hedge j oj hoj h
  have fin : ∀ (v : Value) (w' : World), Rl w' → (∀ t, o.dst ≠ some t → earlyB ops i t = true → (t, i) ∉ ks → SP t (a.tmps.getD t undef) w → SP t (a.tmps.getD t undef) w') → (∀ d, o.dst = some d → SP d v w') → RInvRW ops SP ks Rl a0 (listed.setIfInBounds i true) (a.put o.dst v) w' := by
    intro v w' hb hkeep hs
    have hgt : ∀ t : Nat, o.dst ≠ some t → (a.put o.dst v).tmps.getD t undef = a.tmps.getD t undef := by
      intro t ht
      cases hd2 : o.dst with
      | none => rfl
      | some d => exact put_get (fun e => ht (by rw [hd2, e]))
    refine ⟨hb, ?_, ?_, fun t ht => ?_, hcl, fun t ht hkt => ?_⟩
    · rw [← hI.size]; unfold Act.put; split <;> simp
    · rw [← hI.defs]; unfold Act.put; split <;> rfl
    · have hin : i < listed.size := by
        have := (Array.getElem?_eq_some_iff.1 hoi).1
        omega
      rw [hgt t (fun hd => by
        have h1 := ht i o hoi hd
        simp [Array.getD, hin] at h1)]
      refine hI.kp t fun j oj hj hd => ?_
      have h1 := ht j oj hj hd
      by_cases hij : i = j
      · subst hij
        simp [Array.getD, hin] at h1
      · rwa [getD_set_ne false hij] at h1
    · by_cases hd : o.dst = some t
      · rw [hd, put_here (by rw [hI.size]; exact hsz i o t hoi hd)]
        exact hs t hd
      · rw [hgt t hd]
        have hall : ∀ (j : Nat) (oj : Oper), ops[j]? = some oj → oj.dst = some t → listed.getD j false = true := by
          intro j oj hj hdj
          rcases set_get (ht j oj hj hdj) with rfl | h
          · rw [hoi] at hj
            injection hj with hj
            rw [hj] at hd
            exact absurd hdj hd
          · exact h
        have hin : i < listed.size := by
          have := (Array.getElem?_eq_some_iff.1 hoi).1
          omega
        refine hkeep t hd ?_ (fun hmem => ?_) (hI.sp t hall fun j hj => ?_)
        · unfold earlyB
          rw [List.all_eq_true]
          intro oj hoj
          obtain ⟨j, hj⟩ := List.getElem?_of_mem hoj
          rw [Array.getElem?_toList] at hj
          by_cases hdj : oj.dst = some t
          · have h1 := hall j oj hj hdj
            cases hany : oj.after.any fun e => Region.binds .any e && e.on == i with
            | true => rw [hedge j oj hj hany] at h1; cases h1
            | false => simp
          · simp [hdj]
        · have := hkt i hmem
          simp [Array.getD, hin] at this
        · have := hkt j hj
          rw [← Bool.not_eq_true]
          intro hlj
          by_cases hij : i = j
          · subst hij; rw [hli] at hlj; cases hlj
          · rw [getD_set_ne false hij, hlj] at this
            cases this
  rcases hkk with ⟨hw, hwp⟩ | ⟨hw, hs⟩
  · refine .inl ⟨hw, Oper.wp_mono (fun a' w' => ?_) hwp⟩
    rintro ⟨v, rfl, hb, hkeep, hs⟩
    exact fin v w' hb hkeep hs
  · exact .inr ⟨hw, fin undef w hI.bel (fun _ _ _ _ h => h) hs⟩
end
/-- A frame by its slots. -/
theorem frame_putW {ops : Array Oper} {a a0 : Act} {ds : List Nat} (hds : dsts2 ops = ds) (hsize : a.tmps.size = a0.tmps.size) (hdefs : a.defers = a0.defers) (hkp : ∀ t : Nat, noDstB ops t = true → a.tmps.getD t undef = a0.tmps.getD t undef) : a = putAll (fun t => a.tmps.getD t undef) ds a0 := by
  rw [← hds]
  have e1 : a.tmps = (putAll (fun t => a.tmps.getD t undef) (dsts2 ops) a0).tmps := by
    apply Array.ext_getElem?
    intro t
    by_cases ht : t < a0.tmps.size
    · rw [putAll_get _ _ _ _ ht]
      have hts := hsize
      have h1 : a.tmps[t]? = some (a.tmps.getD t undef) := by
        rw [Array.getD_eq_getD_getElem?, Array.getElem?_eq_getElem (by omega)]; rfl
      by_cases hm2 : t ∈ dsts2 ops
      · rw [if_pos hm2]; exact h1
      · rw [if_neg hm2, h1]
        have hn : noDstB ops t = true := by
          unfold noDstB
          rw [List.all_eq_true]
          intro o ho
          by_cases hd2 : o.dst = some t
          · exact absurd (List.mem_filterMap.2 ⟨o, ho, hd2⟩) hm2
          · simp [hd2]
        rw [hkp t hn, Array.getD_eq_getD_getElem?, Array.getElem?_eq_getElem ht]
        rfl
    · have hts := hsize
      rw [Array.getElem?_eq_none (by omega), Array.getElem?_eq_none (by rw [putAll_size]; omega)]
  have e2 : a.defers = (putAll (fun t => a.tmps.getD t undef) (dsts2 ops) a0).defers := by rw [putAll_defers]; exact hdefs
  generalize putAll (fun t => a.tmps.getD t undef) (dsts2 ops) a0 = b at e1 e2
  cases a; cases b
  simp only at e1 e2
  rw [e1, e2]
/-- The last operation waits for all others. -/
def lastBW (ops : Array Oper) (il : Nat) : Bool :=
  ((List.range ops.size).all fun i => i == il || (ancs ops ops.size (match ops[il]? with
    | some o => o.after.toList.filterMap fun e => if Region.binds .any e then some e.on else none
    | none => [])).contains i) && decide (il < ops.size)
/-- What is asked of an operation: nothing of the last one. -/
def RelOkW (P : Program) (ops : Array Oper) (Q : Exit → Act → World → Prop) (SP : Nat → Value → World → Prop) (ks : List (Nat × Nat)) (Rl : World → Prop) (a0 : Act) (il : Nat) (i : Nat) (o : Oper) : Prop := i = il ∨ OpOkRW P ops Q SP ks Rl a0 i o
theorem rel_lW {P : Program} {ops : Array Oper} {Q : Exit → Act → World → Prop} {SP : Nat → Value → World → Prop} {ks : List (Nat × Nat)} {Rl : World → Prop} {a0 : Act} {il : Nat} {o : Oper} : RelOkW P ops Q SP ks Rl a0 il il o := .inl rfl
theorem rel_nW {P : Program} {ops : Array Oper} {Q : Exit → Act → World → Prop} {SP : Nat → Value → World → Prop} {ks : List (Nat × Nat)} {Rl : World → Prop} {a0 : Act} {il i : Nat} {o : Oper} (h : OpOkRW P ops Q SP ks Rl a0 i o) : RelOkW P ops Q SP ks Rl a0 il i o := .inr h
/-- Only operation il assigns slot d. -/
def onlyB (ops : Array Oper) (il d : Nat) : Bool := (List.range ops.size).all fun i => match ops[i]? with
  | some o => !(o.dst == some d) || i == il
  | none => true
/-- A drawn region over a relation on worlds; operation il comes last. -/
theorem wp_region_asgW {P : Program} {id : Nat} {ops : Array Oper} {Q : Exit → Act → World → Prop} {a0 : Act} {w0 : World} (SP : Nat → Value → World → Prop) (ks : List (Nat × Nat)) (Rl : World → Prop) (il : Nat) (ds : List Nat) (hds : dsts2 ops = ds) (hm : P.follows .mixedOrders = true) (he : earlierC ops = true) (hlb : lastBW ops il = true) (opL : Op) (dl : Nat) (hld : ∀ o, ops[il]? = some o → o.dst = some dl ∧ o.guard = none ∧ o.op = opL) (honly : onlyB ops il dl = true)
    (hsz : (ops.toList.all fun o => match o.dst with | some d => decide (d < a0.tmps.size) | none => true) = true)
    (hR : Rl w0.drew)
    (h0 : ∀ t, noDstB ops t = true → SP t (a0.tmps.getD t undef) w0.drew)
    (hop : ∀ (i : Nat) (o : Oper), ops[i]? = some o → RelOkW P ops Q SP ks Rl a0 il i o)
    (hend : ∀ (oL : Oper), oL.op = opL → oL.dst = some dl → ∀ (vs : Nat → Value) w, Rl w → (∀ t, t ≠ dl → (∀ j, (t, j) ∉ ks) → SP t (vs t) w) → vs dl = a0.tmps.getD dl undef → oL.wp P (putAll vs ds a0) w (fun a'' w'' => Q .normal a'' w'') Q) : (Code.region id ops true).wp P Q a0 w0 := by
  unfold lastBW at hlb
  simp only [Bool.and_eq_true, decide_eq_true_eq] at hlb
  obtain ⟨ha, hil⟩ := hlb
  have hon : ∀ (i : Nat) (o : Oper), ops[i]? = some o → o.dst = some dl → i = il := fun i o ho hd => by
    unfold onlyB at honly
    rw [List.all_eq_true] at honly
    have h1 := honly i (List.mem_range.2 (Array.getElem?_eq_some_iff.1 ho).1)
    rw [ho] at h1
    simp [hd] at h1
    exact h1
  obtain ⟨oL, hoL⟩ : ∃ o, ops[il]? = some o := ⟨_, Array.getElem?_eq_getElem hil⟩
  have hsz' : ∀ (i : Nat) (o : Oper) d, ops[i]? = some o → o.dst = some d → d < a0.tmps.size := by
    intro i o d ho hd
    rw [List.all_eq_true] at hsz
    have := hsz o (by
      have := Array.mem_of_getElem? ho
      simpa using this)
    rw [hd] at this
    exact of_decide_eq_true this
  have hrep : ∀ j : Nat, (Array.replicate ops.size false).getD j false = false := fun j => by
    simp [Array.getD_eq_getD_getElem?, Array.getElem?_replicate]
    split <;> rfl
  refine wp_region_inv (fun listed a w => (listed.getD il false = false ∧ RInvRW ops SP ks Rl a0 listed a w) ∨ ((∀ i, i < ops.size → listed.getD i false = true) ∧ Q .normal a w)) hm he (.inl ⟨hrep il, hR, rfl, rfl, fun _ _ => rfl, (fun i _ _ h => by rw [hrep i] at h; cases h), fun t ht _ => h0 t ?_⟩) ?_ ?_
  · unfold noDstB
    rw [List.all_eq_true]
    intro o ho
    by_cases hd : o.dst = some t
    · exfalso
      have hmem : o ∈ ops := by simpa using ho
      obtain ⟨i, hi, hio⟩ := Array.mem_iff_getElem.1 hmem
      have := ht i o (by rw [Array.getElem?_eq_getElem hi, hio]) hd
      rw [hrep i] at this
      cases this
    · simp [hd]
  · intro i o hoi listed a w hls hli haft hI
    have hib : i < ops.size := (Array.getElem?_eq_some_iff.1 hoi).1
    rcases hI with ⟨h1, hR⟩ | ⟨h1, _⟩
    · by_cases hi : i = il
      · subst hi
        have hall : ∀ j, j < ops.size → j ≠ i → listed.getD j false = true := by
          intro j hj hj1
          rw [List.all_eq_true] at ha
          have h4 := ha j (List.mem_range.2 hj)
          simp only [Bool.or_eq_true, beq_iff_eq, hj1, false_or, List.contains_iff_mem] at h4
          rw [hoi] at h4
          refine ancs_all hR.cl _ _ ?_ j h4
          intro k hk
          obtain ⟨e, he1, hx⟩ := List.mem_filterMap.1 hk
          split at hx
          · rename_i hb
            injection hx with hx
            subst hx
            exact haft e (by simpa using he1) hb
          · cases hx
        obtain ⟨d1, g1, o1⟩ := hld o hoi
        have hwp := hend o o1 d1 (fun t => a.tmps.getD t undef) w hR.bel (fun t htd ht => hR.sp t (fun j oj hj hd => hall j (Array.getElem?_eq_some_iff.1 hj).1 (fun e => by
          subst e
          rw [(hld oj hj).1] at hd
          injection hd with hd
          exact htd hd.symm)) fun j hj => absurd hj (ht j)) (hR.kp dl fun j oj hj hd => by
            have := hon j oj hj hd
            rw [this]
            exact hli)
        rw [← frame_putW hds hR.size hR.defs (fun t ht => hR.kp t fun j oj hj hd => absurd rfl (noDst_ne ht hj hd))] at hwp
        refine .inl ⟨by simp [Region.wanted, g1], Oper.wp_mono (fun a' w' h => .inr ⟨fun j hj => ?_, h⟩) hwp⟩
        by_cases hji : i = j
        · subst hji; simp [Array.getD, hls, hib]
        · rw [getD_set_ne false hji]; exact hall j hj (fun e => hji e.symm)
      · rcases hop i o hoi with h | hk
        · exact absurd h hi
        · rcases rinvR_opW hsz' i o hoi hk listed a w hls hli haft hR with ⟨hw, hwp⟩ | ⟨hw, hR2⟩
          · exact .inl ⟨hw, Oper.wp_mono (fun a' w' h => .inl ⟨by rw [getD_set_ne false hi]; exact h1, h⟩) hwp⟩
          · exact .inr ⟨hw, .inl ⟨by rw [getD_set_ne false hi]; exact h1, hR2⟩⟩
    · rw [h1 i hib] at hli
      cases hli
  · intro listed a w hdone hI
    rcases hI with ⟨h1, _⟩ | ⟨_, h⟩
    · rw [hdone il hil] at h1; cases h1
    · exact h
/-- An operation that changes no elder world: over a relation that stays. -/
theorem rel_sW {P : Program} {ops : Array Oper} {Q : Exit → Act → World → Prop} {ks : List (Nat × Nat)} {Rl : World → Prop} {a0 : Act} {o : Oper} {i : Nat} {tbl : List (Nat × Sp)} (hRl : ∀ w w', Rl w → Below w.heap.size w w' → Rl w') (dead : List Nat) (h : ∀ w0, Rl w0 → OpOk P .any ops Q (SPS (tbl.filter fun p => !dead.contains p.1)) a0 w0 o) (hk : ks.all (fun p => dead.contains p.1 || !(waitsB .any ops o p.1) || p.2 == i || edgeB ops p.2 i) = true) (hd : (match o.dst with | some d => !dead.contains d | none => true) = true) : OpOkRW P ops Q (SPS tbl) ks Rl a0 i o := by
  intro a w hb hs hdf _ hsp
  obtain ⟨hw, hwp⟩ := h w hb a w (Below.refl _ _) hs hdf fun t ht => by
    by_cases htd : dead.contains t = true
    · intro s e
      rw [lookup_dead, if_pos htd] at e
      cases e
    · intro s e
      rw [lookup_dead, if_neg htd] at e
      refine hsp t ht (fun j hj => ?_) s e
      rw [List.all_eq_true] at hk
      have := hk (t, j) hj
      simp only [htd, ht, Bool.not_true, Bool.false_or, Bool.or_eq_true, beq_iff_eq, Bool.or_false] at this
      simpa using this
  refine .inl ⟨hw, Oper.wp_mono (fun a' w' => ?_) hwp⟩
  rintro ⟨v, rfl, hb', hv⟩
  refine ⟨v, rfl, hRl _ _ hb hb', fun t _ _ _ h => SPS.st tbl _ _ _ _ h hb', fun d e => ?_⟩
  have h2 := hv d e
  rw [e] at hd
  intro s hs2
  refine h2 s ?_
  rw [lookup_dead, if_neg (by simpa using hd)]
  exact hs2
theorem lookup_memSW {β : Type} {t : Nat} {s : β} : ∀ {tbl : List (Nat × β)}, tbl.lookup t = some s → (t, s) ∈ tbl
  | [], h => by cases h
  | p :: l, h => by
    rw [List.lookup_cons] at h
    split at h
    · rename_i he
      injection h with h
      have : t = p.1 := by simpa using he
      rw [this, ← h]
      exact List.mem_cons_self ..
    · exact List.mem_cons_of_mem _ (lookup_memSW h)
/-- What no world changes. -/
def Sp.PureW (s : Sp) : Prop := ∀ v w w', s.p v w → s.p v w'
theorem Sp.pure_valW (x : Value) : (Sp.val x).PureW := fun _ _ _ h => h
/-- The append: it uses up what is in ks at i; all else that is told of slots holds in any world. -/
theorem rel_appW {P : Program} {ops : Array Oper} {Q : Exit → Act → World → Prop} {ks : List (Nat × Nat)} {Rl : World → Prop} {a0 : Act} {o : Oper} {i d : Nat} {tbl : List (Nat × Sp)} (hd : o.dst = some d) (hg : o.guard = none)
    (hp : ∀ p ∈ tbl, p.2.PureW ∨ p.1 = d ∨ (p.1, i) ∈ ks)
    (h : ∀ (a : Act) (w : World), Rl w → (∀ t, waitsB .any ops o t = true → (∀ j, (t, j) ∈ ks → j = i ∨ edgeB ops j i = true) → SPS tbl t (a.tmps.getD t undef) w) → o.wp P a w (fun a' w' => ∃ v, a' = a.put o.dst v ∧ Rl w' ∧ SPS tbl d v w') Q) : OpOkRW P ops Q (SPS tbl) ks Rl a0 i o := by
  intro a w hb hs hdf _ hsp
  refine .inl ⟨by simp [Region.wanted, hg], Oper.wp_mono (fun a' w' => ?_) (h a w hb hsp)⟩
  rintro ⟨v, h1, h2, h3⟩
  refine ⟨v, h1, h2, fun t ht _ hk hsp => ?_, fun d' e => by rw [hd] at e; injection e with e; subst e; exact h3⟩
  intro s hs2
  have hmem : (t, s) ∈ tbl := lookup_memSW hs2
  rcases hp _ hmem with h4 | h4 | h4
  · exact h4 _ _ _ (hsp s hs2)
  · exact absurd (by rw [hd]; exact congrArg some h4.symm) ht
  · exact absurd h4 hk

theorem rel_iniW {P : Program} {ops : Array Oper} {Q : Exit → Act → World → Prop} {ks : List (Nat × Nat)} {Rl : World → Prop} {a0 : Act} {o : Oper} {i d : Nat} {tbl : List (Nat × Sp)} (hd : o.dst = some d) (hg : o.guard = none)
    (h : ∀ (a : Act) (w : World), Rl w → (∀ t, lateB ops i t = true → a.tmps.getD t undef = a0.tmps.getD t undef) → (∀ t, waitsB .any ops o t = true → (∀ j, (t, j) ∈ ks → j = i ∨ edgeB ops j i = true) → SPS tbl t (a.tmps.getD t undef) w) → ∃ v, (execOp a.eval o).run P w = .ok (.value v) w ∧ SPS tbl d v w) : OpOkRW P ops Q (SPS tbl) ks Rl a0 i o := by
  intro a w hb hs hdf hini hsp
  refine .inl ⟨by simp [Region.wanted, hg], ?_⟩
  obtain ⟨v, hr, hv⟩ := h a w hb hini hsp
  unfold Oper.wp
  rw [hr]
  exact ⟨v, rfl, hb, fun _ _ _ _ h => h, fun e he => by rw [hd] at he; injection he with he; subst he; exact hv⟩
theorem wp_assign_end {P : Program} {o : Oper} {a : Act} {w : World} {K : Act → World → Prop} {Q : Exit → Act → World → Prop} {s : Nat} (hop : o.op = .assign (.tmp s)) (h : K (a.put o.dst (a.tmps.getD s undef)) w) : o.wp P a w K Q := by
  unfold Oper.wp execOp
  simp only [hop]
  exact h
end Go.Proofs.YtmngghglcgmkeaaGreatDoor

namespace Go.Proofs.YtmngghglcgmkeaaGreatDoor
open Go.RowKit

/-- What is asked of operation i, over a relation on worlds. -/
def OpOkR (P : Program) (ops : Array Oper) (Q : Exit → Act → World → Prop) (SP : Nat → Value → World → Prop) (ks : List (Nat × Nat)) (Rl : World → Prop) (a0 : Act) (i : Nat) (o : Oper) : Prop :=
  ∀ (a : Act) (w : World), Rl w → a.tmps.size = a0.tmps.size → a.defers = a0.defers → (∀ t, waitsB .any ops o t = true → (∀ j, (t, j) ∈ ks → j = i ∨ edgeB ops j i = true) → SP t (a.tmps.getD t undef) w) →
    (Region.wanted o (yielded ops a.tmps) = true ∧ o.wp P a w (fun a' w' => ∃ v, a' = a.put o.dst v ∧ Rl w' ∧ (∀ t, o.dst ≠ some t → earlyB ops i t = true → (t, i) ∉ ks → SP t (a.tmps.getD t undef) w → SP t (a.tmps.getD t undef) w') ∧ ∀ d, o.dst = some d → SP d v w') Q) ∨
    (Region.wanted o (yielded ops a.tmps) = false ∧ ∀ d, o.dst = some d → SP d undef w)
structure RInvR (ops : Array Oper) (SP : Nat → Value → World → Prop) (ks : List (Nat × Nat)) (Rl : World → Prop) (a0 : Act) (listed : Array Bool) (a : Act) (w : World) : Prop where
  bel : Rl w
  size : a.tmps.size = a0.tmps.size
  defs : a.defers = a0.defers
  kp : ∀ t : Nat, noDstB ops t = true → a.tmps.getD t undef = a0.tmps.getD t undef
  cl : ∀ (i : Nat) (o : Oper), ops[i]? = some o → listed.getD i false = true → ∀ e ∈ o.after, Region.binds .any e = true → listed.getD e.on false = true
  sp : ∀ t : Nat, (∀ (i : Nat) (o : Oper), ops[i]? = some o → o.dst = some t → listed.getD i false = true) → (∀ j, (t, j) ∈ ks → listed.getD j false = false) → SP t (a.tmps.getD t undef) w
section
variable {P : Program} {ops : Array Oper} {Q : Exit → Act → World → Prop} {SP : Nat → Value → World → Prop} {ks : List (Nat × Nat)} {Rl : World → Prop} {a0 : Act}
theorem rinvR_op
    (hsz : ∀ (i : Nat) (o : Oper) d, ops[i]? = some o → o.dst = some d → d < a0.tmps.size)
    (i : Nat) (o : Oper) (hoi : ops[i]? = some o) (hk : OpOkR P ops Q SP ks Rl a0 i o) (listed : Array Bool) (a : Act) (w : World) (_ : listed.size = ops.size) (hli : listed.getD i false = false) (haft : ∀ e ∈ o.after, Region.binds .any e = true → listed.getD e.on false = true) (hI : RInvR ops SP ks Rl a0 listed a w) :
      (Region.wanted o (yielded ops a.tmps) = true ∧ o.wp P a w (fun a' w' => RInvR ops SP ks Rl a0 (listed.setIfInBounds i true) a' w') Q) ∨ (Region.wanted o (yielded ops a.tmps) = false ∧ RInvR ops SP ks Rl a0 (listed.setIfInBounds i true) (a.put o.dst undef) w) := by
  have hcl : ∀ (j : Nat) (oj : Oper), ops[j]? = some oj → (listed.setIfInBounds i true).getD j false = true → ∀ e ∈ oj.after, Region.binds .any e = true → (listed.setIfInBounds i true).getD e.on false = true := by
    intro j oj hj hlj e he hb
    have hup : ∀ m : Nat, listed.getD m false = true → (listed.setIfInBounds i true).getD m false = true := by
      intro m hm
      by_cases him : i = m
      · subst him
        rw [hli] at hm; cases hm
      · rw [getD_set_ne false him]; exact hm
    rcases set_get hlj with rfl | h
    · rw [hoi] at hj
      injection hj with hj
      subst hj
      exact hup _ (haft e he hb)
    · exact hup _ (hI.cl j oj hj h e he hb)
  have hedge : ∀ (j : Nat) (oj : Oper), ops[j]? = some oj → (oj.after.any fun e => Region.binds .any e && e.on == i) = true → listed.getD j false = false := by
    intro j oj hj hany
    rw [← Bool.not_eq_true]
    intro hlj
    rw [Array.any_eq_true] at hany
    obtain ⟨x, hx, he2⟩ := hany
    rw [Bool.and_eq_true, beq_iff_eq] at he2
    have := hI.cl j oj hj hlj _ (Array.getElem_mem hx) he2.1
    rw [he2.2, hli] at this
    cases this
  have hil : i < listed.size ∨ ¬ i < listed.size := Decidable.em _
  have hkk := hk a w hI.bel hI.size hI.defs fun t ht hkt => hI.sp t (waits_all ht haft) fun j hj => by
    rcases hkt j hj with rfl | h
    · exact hli
    · unfold edgeB at h
      cases hoj : ops[j]? with
      | none => rw [hoj] at h; cases h
      | some oj => rw [hoj] at h; exact hedge j oj hoj h
  have fin : ∀ (v : Value) (w' : World), Rl w' → (∀ t, o.dst ≠ some t → earlyB ops i t = true → (t, i) ∉ ks → SP t (a.tmps.getD t undef) w → SP t (a.tmps.getD t undef) w') → (∀ d, o.dst = some d → SP d v w') → RInvR ops SP ks Rl a0 (listed.setIfInBounds i true) (a.put o.dst v) w' := by
    intro v w' hb hkeep hs
    have hgt : ∀ t : Nat, o.dst ≠ some t → (a.put o.dst v).tmps.getD t undef = a.tmps.getD t undef := by
      intro t ht
      cases hd2 : o.dst with
      | none => rfl
      | some d => exact put_get (fun e => ht (by rw [hd2, e]))
    refine ⟨hb, ?_, ?_, fun t ht => ?_, hcl, fun t ht hkt => ?_⟩
    · rw [← hI.size]; unfold Act.put; split <;> simp
    · rw [← hI.defs]; unfold Act.put; split <;> rfl
    · rw [hgt t (fun hd => noDst_ne ht hoi hd rfl)]; exact hI.kp t ht
    · by_cases hd : o.dst = some t
      · rw [hd, put_here (by rw [hI.size]; exact hsz i o t hoi hd)]
        exact hs t hd
      · rw [hgt t hd]
        have hall : ∀ (j : Nat) (oj : Oper), ops[j]? = some oj → oj.dst = some t → listed.getD j false = true := by
          intro j oj hj hdj
          rcases set_get (ht j oj hj hdj) with rfl | h
          · rw [hoi] at hj
            injection hj with hj
            rw [hj] at hd
            exact absurd hdj hd
          · exact h
        have hin : i < listed.size := by
          have := (Array.getElem?_eq_some_iff.1 hoi).1
          omega
        refine hkeep t hd ?_ (fun hmem => ?_) (hI.sp t hall fun j hj => ?_)
        · unfold earlyB
          rw [List.all_eq_true]
          intro oj hoj
          obtain ⟨j, hj⟩ := List.getElem?_of_mem hoj
          rw [Array.getElem?_toList] at hj
          by_cases hdj : oj.dst = some t
          · have h1 := hall j oj hj hdj
            cases hany : oj.after.any fun e => Region.binds .any e && e.on == i with
            | true => rw [hedge j oj hj hany] at h1; cases h1
            | false => simp
          · simp [hdj]
        · have := hkt i hmem
          simp [Array.getD, hin] at this
        · have := hkt j hj
          rw [← Bool.not_eq_true]
          intro hlj
          by_cases hij : i = j
          · subst hij; rw [hli] at hlj; cases hlj
          · rw [getD_set_ne false hij, hlj] at this
            cases this
  rcases hkk with ⟨hw, hwp⟩ | ⟨hw, hs⟩
  · refine .inl ⟨hw, Oper.wp_mono (fun a' w' => ?_) hwp⟩
    rintro ⟨v, rfl, hb, hkeep, hs⟩
    exact fin v w' hb hkeep hs
  · exact .inr ⟨hw, fin undef w hI.bel (fun _ _ _ _ h => h) hs⟩
end
/-- A frame by its slots. -/
theorem frame_put {ops : Array Oper} {a a0 : Act} {ds : List Nat} (hds : dsts2 ops = ds) (hsize : a.tmps.size = a0.tmps.size) (hdefs : a.defers = a0.defers) (hkp : ∀ t : Nat, noDstB ops t = true → a.tmps.getD t undef = a0.tmps.getD t undef) : a = putAll (fun t => a.tmps.getD t undef) ds a0 := by
  rw [← hds]
  have e1 : a.tmps = (putAll (fun t => a.tmps.getD t undef) (dsts2 ops) a0).tmps := by
    apply Array.ext_getElem?
    intro t
    by_cases ht : t < a0.tmps.size
    · rw [putAll_get _ _ _ _ ht]
      have hts := hsize
      have h1 : a.tmps[t]? = some (a.tmps.getD t undef) := by
        rw [Array.getD_eq_getD_getElem?, Array.getElem?_eq_getElem (by omega)]; rfl
      by_cases hm2 : t ∈ dsts2 ops
      · rw [if_pos hm2]; exact h1
      · rw [if_neg hm2, h1]
        have hn : noDstB ops t = true := by
          unfold noDstB
          rw [List.all_eq_true]
          intro o ho
          by_cases hd2 : o.dst = some t
          · exact absurd (List.mem_filterMap.2 ⟨o, ho, hd2⟩) hm2
          · simp [hd2]
        rw [hkp t hn, Array.getD_eq_getD_getElem?, Array.getElem?_eq_getElem ht]
        rfl
    · have hts := hsize
      rw [Array.getElem?_eq_none (by omega), Array.getElem?_eq_none (by rw [putAll_size]; omega)]
  have e2 : a.defers = (putAll (fun t => a.tmps.getD t undef) (dsts2 ops) a0).defers := by rw [putAll_defers]; exact hdefs
  generalize putAll (fun t => a.tmps.getD t undef) (dsts2 ops) a0 = b at e1 e2
  cases a; cases b
  simp only at e1 e2
  rw [e1, e2]
/-- The last operation waits for all others. -/
def lastB (ops : Array Oper) (il : Nat) : Bool :=
  ((List.range ops.size).all fun i => i == il || (ancs ops ops.size (match ops[il]? with
    | some o => o.after.toList.filterMap fun e => if Region.binds .any e then some e.on else none
    | none => [])).contains i) && decide (il < ops.size)
/-- What is asked of an operation: nothing of the last one. -/
def RelOk (P : Program) (ops : Array Oper) (Q : Exit → Act → World → Prop) (SP : Nat → Value → World → Prop) (ks : List (Nat × Nat)) (Rl : World → Prop) (a0 : Act) (il : Nat) (i : Nat) (o : Oper) : Prop := i = il ∨ OpOkR P ops Q SP ks Rl a0 i o
theorem rel_l {P : Program} {ops : Array Oper} {Q : Exit → Act → World → Prop} {SP : Nat → Value → World → Prop} {ks : List (Nat × Nat)} {Rl : World → Prop} {a0 : Act} {il : Nat} {o : Oper} : RelOk P ops Q SP ks Rl a0 il il o := .inl rfl
theorem rel_n {P : Program} {ops : Array Oper} {Q : Exit → Act → World → Prop} {SP : Nat → Value → World → Prop} {ks : List (Nat × Nat)} {Rl : World → Prop} {a0 : Act} {il i : Nat} {o : Oper} (h : OpOkR P ops Q SP ks Rl a0 i o) : RelOk P ops Q SP ks Rl a0 il i o := .inr h
/-- A drawn region over a relation on worlds; operation il comes last. -/
theorem wp_region_rel {P : Program} {id : Nat} {ops : Array Oper} {Q : Exit → Act → World → Prop} {a0 : Act} {w0 : World} (SP : Nat → Value → World → Prop) (ks : List (Nat × Nat)) (Rl : World → Prop) (il : Nat) (ds : List Nat) (hds : dsts2 ops = ds) (hm : P.follows .mixedOrders = true) (he : earlierC ops = true) (hlb : lastB ops il = true) (opL : Op) (hld : ∀ o, ops[il]? = some o → o.dst = none ∧ o.guard = none ∧ o.op = opL)
    (hsz : (ops.toList.all fun o => match o.dst with | some d => decide (d < a0.tmps.size) | none => true) = true)
    (hR : Rl w0.drew)
    (h0 : ∀ t, noDstB ops t = true → SP t (a0.tmps.getD t undef) w0.drew)
    (hop : ∀ (i : Nat) (o : Oper), ops[i]? = some o → RelOk P ops Q SP ks Rl a0 il i o)
    (hend : ∀ (oL : Oper), oL.op = opL → oL.dst = none → ∀ (vs : Nat → Value) w, Rl w → (∀ t, (∀ j, (t, j) ∉ ks) → SP t (vs t) w) → oL.wp P (putAll vs ds a0) w (fun a'' w'' => Q .normal a'' w'') Q) : (Code.region id ops true).wp P Q a0 w0 := by
  unfold lastB at hlb
  simp only [Bool.and_eq_true, decide_eq_true_eq] at hlb
  obtain ⟨ha, hil⟩ := hlb
  obtain ⟨oL, hoL⟩ : ∃ o, ops[il]? = some o := ⟨_, Array.getElem?_eq_getElem hil⟩
  have hsz' : ∀ (i : Nat) (o : Oper) d, ops[i]? = some o → o.dst = some d → d < a0.tmps.size := by
    intro i o d ho hd
    rw [List.all_eq_true] at hsz
    have := hsz o (by
      have := Array.mem_of_getElem? ho
      simpa using this)
    rw [hd] at this
    exact of_decide_eq_true this
  have hrep : ∀ j : Nat, (Array.replicate ops.size false).getD j false = false := fun j => by
    simp [Array.getD_eq_getD_getElem?, Array.getElem?_replicate]
    split <;> rfl
  refine wp_region_inv (fun listed a w => (listed.getD il false = false ∧ RInvR ops SP ks Rl a0 listed a w) ∨ ((∀ i, i < ops.size → listed.getD i false = true) ∧ Q .normal a w)) hm he (.inl ⟨hrep il, hR, rfl, rfl, fun _ _ => rfl, (fun i _ _ h => by rw [hrep i] at h; cases h), fun t ht _ => h0 t ?_⟩) ?_ ?_
  · unfold noDstB
    rw [List.all_eq_true]
    intro o ho
    by_cases hd : o.dst = some t
    · exfalso
      have hmem : o ∈ ops := by simpa using ho
      obtain ⟨i, hi, hio⟩ := Array.mem_iff_getElem.1 hmem
      have := ht i o (by rw [Array.getElem?_eq_getElem hi, hio]) hd
      rw [hrep i] at this
      cases this
    · simp [hd]
  · intro i o hoi listed a w hls hli haft hI
    have hib : i < ops.size := (Array.getElem?_eq_some_iff.1 hoi).1
    rcases hI with ⟨h1, hR⟩ | ⟨h1, _⟩
    · by_cases hi : i = il
      · subst hi
        have hall : ∀ j, j < ops.size → j ≠ i → listed.getD j false = true := by
          intro j hj hj1
          rw [List.all_eq_true] at ha
          have h4 := ha j (List.mem_range.2 hj)
          simp only [Bool.or_eq_true, beq_iff_eq, hj1, false_or, List.contains_iff_mem] at h4
          rw [hoi] at h4
          refine ancs_all hR.cl _ _ ?_ j h4
          intro k hk
          obtain ⟨e, he1, hx⟩ := List.mem_filterMap.1 hk
          split at hx
          · rename_i hb
            injection hx with hx
            subst hx
            exact haft e (by simpa using he1) hb
          · cases hx
        obtain ⟨d1, g1, o1⟩ := hld o hoi
        have hwp := hend o o1 d1 (fun t => a.tmps.getD t undef) w hR.bel fun t ht => hR.sp t (fun j oj hj hd => hall j (Array.getElem?_eq_some_iff.1 hj).1 (fun e => by
          subst e
          rw [(hld oj hj).1] at hd
          cases hd)) fun j hj => absurd hj (ht j)
        rw [← frame_put hds hR.size hR.defs hR.kp] at hwp
        refine .inl ⟨by simp [Region.wanted, g1], Oper.wp_mono (fun a' w' h => .inr ⟨fun j hj => ?_, h⟩) hwp⟩
        by_cases hji : i = j
        · subst hji; simp [Array.getD, hls, hib]
        · rw [getD_set_ne false hji]; exact hall j hj (fun e => hji e.symm)
      · rcases hop i o hoi with h | hk
        · exact absurd h hi
        · rcases rinvR_op hsz' i o hoi hk listed a w hls hli haft hR with ⟨hw, hwp⟩ | ⟨hw, hR2⟩
          · exact .inl ⟨hw, Oper.wp_mono (fun a' w' h => .inl ⟨by rw [getD_set_ne false hi]; exact h1, h⟩) hwp⟩
          · exact .inr ⟨hw, .inl ⟨by rw [getD_set_ne false hi]; exact h1, hR2⟩⟩
    · rw [h1 i hib] at hli
      cases hli
  · intro listed a w hdone hI
    rcases hI with ⟨h1, _⟩ | ⟨_, h⟩
    · rw [hdone il hil] at h1; cases h1
    · exact h
/-- An operation that changes no elder world: over a relation that stays. -/
theorem rel_s {P : Program} {ops : Array Oper} {Q : Exit → Act → World → Prop} {ks : List (Nat × Nat)} {Rl : World → Prop} {a0 : Act} {o : Oper} {i : Nat} {tbl : List (Nat × Sp)} (hRl : ∀ w w', Rl w → Below w.heap.size w w' → Rl w') (dead : List Nat) (h : ∀ w0, Rl w0 → OpOk P .any ops Q (SPS (tbl.filter fun p => !dead.contains p.1)) a0 w0 o) (hk : ks.all (fun p => dead.contains p.1 || !(waitsB .any ops o p.1) || p.2 == i || edgeB ops p.2 i) = true) (hd : (match o.dst with | some d => !dead.contains d | none => true) = true) : OpOkR P ops Q (SPS tbl) ks Rl a0 i o := by
  intro a w hb hs hdf hsp
  obtain ⟨hw, hwp⟩ := h w hb a w (Below.refl _ _) hs hdf fun t ht => by
    by_cases htd : dead.contains t = true
    · intro s e
      rw [lookup_dead, if_pos htd] at e
      cases e
    · intro s e
      rw [lookup_dead, if_neg htd] at e
      refine hsp t ht (fun j hj => ?_) s e
      rw [List.all_eq_true] at hk
      have := hk (t, j) hj
      simp only [htd, ht, Bool.not_true, Bool.false_or, Bool.or_eq_true, beq_iff_eq, Bool.or_false] at this
      simpa using this
  refine .inl ⟨hw, Oper.wp_mono (fun a' w' => ?_) hwp⟩
  rintro ⟨v, rfl, hb', hv⟩
  refine ⟨v, rfl, hRl _ _ hb hb', fun t _ _ _ h => SPS.st tbl _ _ _ _ h hb', fun d e => ?_⟩
  have h2 := hv d e
  rw [e] at hd
  intro s hs2
  refine h2 s ?_
  rw [lookup_dead, if_neg (by simpa using hd)]
  exact hs2
theorem lookup_memS {β : Type} {t : Nat} {s : β} : ∀ {tbl : List (Nat × β)}, tbl.lookup t = some s → (t, s) ∈ tbl
  | [], h => by cases h
  | p :: l, h => by
    rw [List.lookup_cons] at h
    split at h
    · rename_i he
      injection h with h
      have : t = p.1 := by simpa using he
      rw [this, ← h]
      exact List.mem_cons_self ..
    · exact List.mem_cons_of_mem _ (lookup_memS h)
/-- What no world changes. -/
def Sp.Pure (s : Sp) : Prop := ∀ v w w', s.p v w → s.p v w'
theorem Sp.pure_val (x : Value) : (Sp.val x).Pure := fun _ _ _ h => h
/-- The append: it uses up what is in ks at i; all else that is told of slots holds in any world. -/
theorem rel_app {P : Program} {ops : Array Oper} {Q : Exit → Act → World → Prop} {ks : List (Nat × Nat)} {Rl : World → Prop} {a0 : Act} {o : Oper} {i d : Nat} {tbl : List (Nat × Sp)} (hd : o.dst = some d) (hg : o.guard = none)
    (hp : ∀ p ∈ tbl, p.2.Pure ∨ p.1 = d ∨ (p.1, i) ∈ ks)
    (h : ∀ (a : Act) (w : World), Rl w → (∀ t, waitsB .any ops o t = true → (∀ j, (t, j) ∈ ks → j = i ∨ edgeB ops j i = true) → SPS tbl t (a.tmps.getD t undef) w) → o.wp P a w (fun a' w' => ∃ v, a' = a.put o.dst v ∧ Rl w' ∧ SPS tbl d v w') Q) : OpOkR P ops Q (SPS tbl) ks Rl a0 i o := by
  intro a w hb hs hdf hsp
  refine .inl ⟨by simp [Region.wanted, hg], Oper.wp_mono (fun a' w' => ?_) (h a w hb hsp)⟩
  rintro ⟨v, h1, h2, h3⟩
  refine ⟨v, h1, h2, fun t ht _ hk hsp => ?_, fun d' e => by rw [hd] at e; injection e with e; subst e; exact h3⟩
  intro s hs2
  have hmem : (t, s) ∈ tbl := lookup_memS hs2
  rcases hp _ hmem with h4 | h4 | h4
  · exact h4 _ _ _ (hsp s hs2)
  · exact absurd (by rw [hd]; exact congrArg some h4.symm) ht
  · exact absurd h4 hk
end Go.Proofs.YtmngghglcgmkeaaGreatDoor
