/- Merged from: Rgr Lt1. -/
import Derived.Test.YtlgoaohklggcdaaGreatDoorLnb
import Derived.Test.YtlgoaohklggcdaaGreatDoorTmc
namespace Go.Proofs.YtlgoaohklggcdaaGreatDoor
open Go.RowKit

/-- What is asked of operation i, over a relation on worlds. -/
def OpOkR (P : Program) (ops : Array Oper) (Q : Exit → Act → World → Prop) (SP : Nat → Value → World → Prop) (ks : List (Nat × Nat)) (Rl : World → Prop) (a0 : Act) (i : Nat) (o : Oper) : Prop :=
  ∀ (a : Act) (w : World), Rl w → a.tmps.size = a0.tmps.size → a.defers = a0.defers → (∀ t, waitsB .any ops o t = true → (∀ j, (t, j) ∈ ks → j = i ∨ edgeB ops j i = true) → SP t (a.tmps.getD t undef) w) →
    (Region.wanted o (yielded ops a.tmps) = true ∧ o.wp P a w (fun a' w' => ∃ v, a' = a.put o.dst v ∧ Rl w' ∧ (∀ t, o.dst ≠ some t → earlyB ops i t = true → (t, i) ∉ ks → SP t (a.tmps.getD t undef) w → SP t (a.tmps.getD t undef) w') ∧ ∀ d, o.dst = some d → SP d v w') Q) ∨
    (Region.wanted o (yielded ops a.tmps) = false ∧ ∀ d, o.dst = some d → SP d undef w)
structure RInvR (ops : Array Oper) (SP : Nat → Value → World → Prop) (ks : List (Nat × Nat)) (Rl : World → Prop) (a0 : Act) (listed : Array Bool) (a : Act) (w : World) : Prop where
  bel : Rl w
  size : a.tmps.size = a0.tmps.size
  defs : a.defers = a0.defers
  kp : ∀ t : Nat, noDstB ops t = true → a.tmps.getD t undef = a0.tmps.getD t undef
  cl : ∀ (i : Nat) (o : Oper), ops[i]? = some o → listed.getD i false = true → ∀ e ∈ o.after, Region.binds .any e = true → listed.getD e.on false = true
  sp : ∀ t : Nat, (∀ (i : Nat) (o : Oper), ops[i]? = some o → o.dst = some t → listed.getD i false = true) → (∀ j, (t, j) ∈ ks → listed.getD j false = false) → SP t (a.tmps.getD t undef) w
section
variable {P : Program} {ops : Array Oper} {Q : Exit → Act → World → Prop} {SP : Nat → Value → World → Prop} {ks : List (Nat × Nat)} {Rl : World → Prop} {a0 : Act}
theorem rinvR_op
    (hsz : ∀ (i : Nat) (o : Oper) d, ops[i]? = some o → o.dst = some d → d < a0.tmps.size)
    (i : Nat) (o : Oper) (hoi : ops[i]? = some o) (hk : OpOkR P ops Q SP ks Rl a0 i o) (listed : Array Bool) (a : Act) (w : World) (_ : listed.size = ops.size) (hli : listed.getD i false = false) (haft : ∀ e ∈ o.after, Region.binds .any e = true → listed.getD e.on false = true) (hI : RInvR ops SP ks Rl a0 listed a w) :
      (Region.wanted o (yielded ops a.tmps) = true ∧ o.wp P a w (fun a' w' => RInvR ops SP ks Rl a0 (listed.setIfInBounds i true) a' w') Q) ∨ (Region.wanted o (yielded ops a.tmps) = false ∧ RInvR ops SP ks Rl a0 (listed.setIfInBounds i true) (a.put o.dst undef) w) := by
  have hcl : ∀ (j : Nat) (oj : Oper), ops[j]? = some oj → (listed.setIfInBounds i true).getD j false = true → ∀ e ∈ oj.after, Region.binds .any e = true → (listed.setIfInBounds i true).getD e.on false = true := by
    intro j oj hj hlj e he hb
    have hup : ∀ m : Nat, listed.getD m false = true → (listed.setIfInBounds i true).getD m false = true := by
      intro m hm
      by_cases him : i = m
      · subst him
        rw [hli] at hm; cases hm
      · rw [getD_set_ne false him]; exact hm
    rcases set_get hlj with rfl | h
    · rw [hoi] at hj
      injection hj with hj
      subst hj
      exact hup _ (haft e he hb)
    · exact hup _ (hI.cl j oj hj h e he hb)
  have hedge : ∀ (j : Nat) (oj : Oper), ops[j]? = some oj → (oj.after.any fun e => Region.binds .any e && e.on == i) = true → listed.getD j false = false := by
    intro j oj hj hany
    rw [← Bool.not_eq_true]
    intro hlj
    rw [Array.any_eq_true] at hany
    obtain ⟨x, hx, he2⟩ := hany
    rw [Bool.and_eq_true, beq_iff_eq] at he2
    have := hI.cl j oj hj hlj _ (Array.getElem_mem hx) he2.1
    rw [he2.2, hli] at this
    cases this
  have hil : i < listed.size ∨ ¬ i < listed.size := Decidable.em _
  have hkk := hk a w hI.bel hI.size hI.defs fun t ht hkt => hI.sp t (waits_all ht haft) fun j hj => by
    rcases hkt j hj with rfl | h
    · exact hli
    · unfold edgeB at h
      cases hoj : ops[j]? with
      | none => rw [hoj] at h; cases h
      | some oj => rw [hoj] at h; exact hedge j oj hoj h
  have fin : ∀ (v : Value) (w' : World), Rl w' → (∀ t, o.dst ≠ some t → earlyB ops i t = true → (t, i) ∉ ks → SP t (a.tmps.getD t undef) w → SP t (a.tmps.getD t undef) w') → (∀ d, o.dst = some d → SP d v w') → RInvR ops SP ks Rl a0 (listed.setIfInBounds i true) (a.put o.dst v) w' := by
    intro v w' hb hkeep hs
    have hgt : ∀ t : Nat, o.dst ≠ some t → (a.put o.dst v).tmps.getD t undef = a.tmps.getD t undef := by
      intro t ht
      cases hd2 : o.dst with
      | none => rfl
      | some d => exact put_get (fun e => ht (by rw [hd2, e]))
    refine ⟨hb, ?_, ?_, fun t ht => ?_, hcl, fun t ht hkt => ?_⟩
    · rw [← hI.size]; unfold Act.put; split <;> simp
    · rw [← hI.defs]; unfold Act.put; split <;> rfl
    · rw [hgt t (fun hd => noDst_ne ht hoi hd rfl)]; exact hI.kp t ht
    · by_cases hd : o.dst = some t
      · rw [hd, put_here (by rw [hI.size]; exact hsz i o t hoi hd)]
        exact hs t hd
      · rw [hgt t hd]
        have hall : ∀ (j : Nat) (oj : Oper), ops[j]? = some oj → oj.dst = some t → listed.getD j false = true := by
          intro j oj hj hdj
          rcases set_get (ht j oj hj hdj) with rfl | h
          · rw [hoi] at hj
            injection hj with hj
            rw [hj] at hd
            exact absurd hdj hd
          · exact h
        have hin : i < listed.size := by
          have := (Array.getElem?_eq_some_iff.1 hoi).1
          omega
        refine hkeep t hd ?_ (fun hmem => ?_) (hI.sp t hall fun j hj => ?_)
        · unfold earlyB
          rw [List.all_eq_true]
          intro oj hoj
          obtain ⟨j, hj⟩ := List.getElem?_of_mem hoj
          rw [Array.getElem?_toList] at hj
          by_cases hdj : oj.dst = some t
          · have h1 := hall j oj hj hdj
            cases hany : oj.after.any fun e => Region.binds .any e && e.on == i with
            | true => rw [hedge j oj hj hany] at h1; cases h1
            | false => simp
          · simp [hdj]
        · have := hkt i hmem
          simp [Array.getD, hin] at this
        · have := hkt j hj
          rw [← Bool.not_eq_true]
          intro hlj
          by_cases hij : i = j
          · subst hij; rw [hli] at hlj; cases hlj
          · rw [getD_set_ne false hij, hlj] at this
            cases this
  rcases hkk with ⟨hw, hwp⟩ | ⟨hw, hs⟩
  · refine .inl ⟨hw, Oper.wp_mono (fun a' w' => ?_) hwp⟩
    rintro ⟨v, rfl, hb, hkeep, hs⟩
    exact fin v w' hb hkeep hs
  · exact .inr ⟨hw, fin undef w hI.bel (fun _ _ _ _ h => h) hs⟩
end
/-- A frame by its slots. -/
theorem frame_put {ops : Array Oper} {a a0 : Act} {ds : List Nat} (hds : dsts2 ops = ds) (hsize : a.tmps.size = a0.tmps.size) (hdefs : a.defers = a0.defers) (hkp : ∀ t : Nat, noDstB ops t = true → a.tmps.getD t undef = a0.tmps.getD t undef) : a = putAll (fun t => a.tmps.getD t undef) ds a0 := by
  rw [← hds]
  have e1 : a.tmps = (putAll (fun t => a.tmps.getD t undef) (dsts2 ops) a0).tmps := by
    apply Array.ext_getElem?
    intro t
    by_cases ht : t < a0.tmps.size
    · rw [putAll_get _ _ _ _ ht]
      have hts := hsize
      have h1 : a.tmps[t]? = some (a.tmps.getD t undef) := by
        rw [Array.getD_eq_getD_getElem?, Array.getElem?_eq_getElem (by omega)]; rfl
      by_cases hm2 : t ∈ dsts2 ops
      · rw [if_pos hm2]; exact h1
      · rw [if_neg hm2, h1]
        have hn : noDstB ops t = true := by
          unfold noDstB
          rw [List.all_eq_true]
          intro o ho
          by_cases hd2 : o.dst = some t
          · exact absurd (List.mem_filterMap.2 ⟨o, ho, hd2⟩) hm2
          · simp [hd2]
        rw [hkp t hn, Array.getD_eq_getD_getElem?, Array.getElem?_eq_getElem ht]
        rfl
    · have hts := hsize
      rw [Array.getElem?_eq_none (by omega), Array.getElem?_eq_none (by rw [putAll_size]; omega)]
  have e2 : a.defers = (putAll (fun t => a.tmps.getD t undef) (dsts2 ops) a0).defers := by rw [putAll_defers]; exact hdefs
  generalize putAll (fun t => a.tmps.getD t undef) (dsts2 ops) a0 = b at e1 e2
  cases a; cases b
  simp only at e1 e2
  rw [e1, e2]
/-- The last operation waits for all others. -/
def lastB (ops : Array Oper) (il : Nat) : Bool :=
  ((List.range ops.size).all fun i => i == il || (ancs ops ops.size (match ops[il]? with
    | some o => o.after.toList.filterMap fun e => if Region.binds .any e then some e.on else none
    | none => [])).contains i) && decide (il < ops.size)
/-- What is asked of an operation: nothing of the last one. -/
def RelOk (P : Program) (ops : Array Oper) (Q : Exit → Act → World → Prop) (SP : Nat → Value → World → Prop) (ks : List (Nat × Nat)) (Rl : World → Prop) (a0 : Act) (il : Nat) (i : Nat) (o : Oper) : Prop := i = il ∨ OpOkR P ops Q SP ks Rl a0 i o
theorem rel_l {P : Program} {ops : Array Oper} {Q : Exit → Act → World → Prop} {SP : Nat → Value → World → Prop} {ks : List (Nat × Nat)} {Rl : World → Prop} {a0 : Act} {il : Nat} {o : Oper} : RelOk P ops Q SP ks Rl a0 il il o := .inl rfl
theorem rel_n {P : Program} {ops : Array Oper} {Q : Exit → Act → World → Prop} {SP : Nat → Value → World → Prop} {ks : List (Nat × Nat)} {Rl : World → Prop} {a0 : Act} {il i : Nat} {o : Oper} (h : OpOkR P ops Q SP ks Rl a0 i o) : RelOk P ops Q SP ks Rl a0 il i o := .inr h
/-- A drawn region over a relation on worlds; operation il comes last. -/
theorem wp_region_rel {P : Program} {id : Nat} {ops : Array Oper} {Q : Exit → Act → World → Prop} {a0 : Act} {w0 : World} (SP : Nat → Value → World → Prop) (ks : List (Nat × Nat)) (Rl : World → Prop) (il : Nat) (ds : List Nat) (hds : dsts2 ops = ds) (hm : P.follows .mixedOrders = true) (he : earlierC ops = true) (hlb : lastB ops il = true) (opL : Op) (hld : ∀ o, ops[il]? = some o → o.dst = none ∧ o.guard = none ∧ o.op = opL)
    (hsz : (ops.toList.all fun o => match o.dst with | some d => decide (d < a0.tmps.size) | none => true) = true)
    (hR : Rl w0.drew)
    (h0 : ∀ t, noDstB ops t = true → SP t (a0.tmps.getD t undef) w0.drew)
    (hop : ∀ (i : Nat) (o : Oper), ops[i]? = some o → RelOk P ops Q SP ks Rl a0 il i o)
    (hend : ∀ (oL : Oper), oL.op = opL → oL.dst = none → ∀ (vs : Nat → Value) w, Rl w → (∀ t, (∀ j, (t, j) ∉ ks) → SP t (vs t) w) → oL.wp P (putAll vs ds a0) w (fun a'' w'' => Q .normal a'' w'') Q) : (Code.region id ops true).wp P Q a0 w0 := by
  unfold lastB at hlb
  simp only [Bool.and_eq_true, decide_eq_true_eq] at hlb
  obtain ⟨ha, hil⟩ := hlb
  obtain ⟨oL, hoL⟩ : ∃ o, ops[il]? = some o := ⟨_, Array.getElem?_eq_getElem hil⟩
  have hsz' : ∀ (i : Nat) (o : Oper) d, ops[i]? = some o → o.dst = some d → d < a0.tmps.size := by
    intro i o d ho hd
    rw [List.all_eq_true] at hsz
    have := hsz o (by
      have := Array.mem_of_getElem? ho
      simpa using this)
    rw [hd] at this
    exact of_decide_eq_true this
  have hrep : ∀ j : Nat, (Array.replicate ops.size false).getD j false = false := fun j => by
    simp [Array.getD_eq_getD_getElem?, Array.getElem?_replicate]
    split <;> rfl
  refine wp_region_inv (fun listed a w => (listed.getD il false = false ∧ RInvR ops SP ks Rl a0 listed a w) ∨ ((∀ i, i < ops.size → listed.getD i false = true) ∧ Q .normal a w)) hm he (.inl ⟨hrep il, hR, rfl, rfl, fun _ _ => rfl, (fun i _ _ h => by rw [hrep i] at h; cases h), fun t ht _ => h0 t ?_⟩) ?_ ?_
  · unfold noDstB
    rw [List.all_eq_true]
    intro o ho
    by_cases hd : o.dst = some t
    · exfalso
      have hmem : o ∈ ops := by simpa using ho
      obtain ⟨i, hi, hio⟩ := Array.mem_iff_getElem.1 hmem
      have := ht i o (by rw [Array.getElem?_eq_getElem hi, hio]) hd
      rw [hrep i] at this
      cases this
    · simp [hd]
  · intro i o hoi listed a w hls hli haft hI
    have hib : i < ops.size := (Array.getElem?_eq_some_iff.1 hoi).1
    rcases hI with ⟨h1, hR⟩ | ⟨h1, _⟩
    · by_cases hi : i = il
      · subst hi
        have hall : ∀ j, j < ops.size → j ≠ i → listed.getD j false = true := by
          intro j hj hj1
          rw [List.all_eq_true] at ha
          have h4 := ha j (List.mem_range.2 hj)
          simp only [Bool.or_eq_true, beq_iff_eq, hj1, false_or, List.contains_iff_mem] at h4
          rw [hoi] at h4
          refine ancs_all hR.cl _ _ ?_ j h4
          intro k hk
          obtain ⟨e, he1, hx⟩ := List.mem_filterMap.1 hk
          split at hx
          · rename_i hb
            injection hx with hx
            subst hx
            exact haft e (by simpa using he1) hb
          · cases hx
        obtain ⟨d1, g1, o1⟩ := hld o hoi
        have hwp := hend o o1 d1 (fun t => a.tmps.getD t undef) w hR.bel fun t ht => hR.sp t (fun j oj hj hd => hall j (Array.getElem?_eq_some_iff.1 hj).1 (fun e => by
          subst e
          rw [(hld oj hj).1] at hd
          cases hd)) fun j hj => absurd hj (ht j)
        rw [← frame_put hds hR.size hR.defs hR.kp] at hwp
        refine .inl ⟨by simp [Region.wanted, g1], Oper.wp_mono (fun a' w' h => .inr ⟨fun j hj => ?_, h⟩) hwp⟩
        by_cases hji : i = j
        · subst hji; simp [Array.getD, hls, hib]
        · rw [getD_set_ne false hji]; exact hall j hj (fun e => hji e.symm)
      · rcases hop i o hoi with h | hk
        · exact absurd h hi
        · rcases rinvR_op hsz' i o hoi hk listed a w hls hli haft hR with ⟨hw, hwp⟩ | ⟨hw, hR2⟩
          · exact .inl ⟨hw, Oper.wp_mono (fun a' w' h => .inl ⟨by rw [getD_set_ne false hi]; exact h1, h⟩) hwp⟩
          · exact .inr ⟨hw, .inl ⟨by rw [getD_set_ne false hi]; exact h1, hR2⟩⟩
    · rw [h1 i hib] at hli
      cases hli
  · intro listed a w hdone hI
    rcases hI with ⟨h1, _⟩ | ⟨_, h⟩
    · rw [hdone il hil] at h1; cases h1
    · exact h
/-- An operation that changes no elder world: over a relation that stays. -/
theorem rel_s {P : Program} {ops : Array Oper} {Q : Exit → Act → World → Prop} {ks : List (Nat × Nat)} {Rl : World → Prop} {a0 : Act} {o : Oper} {i : Nat} {tbl : List (Nat × Sp)} (hRl : ∀ w w', Rl w → Below w.heap.size w w' → Rl w') (dead : List Nat) (h : ∀ w0, Rl w0 → OpOk P .any ops Q (SPS (tbl.filter fun p => !dead.contains p.1)) a0 w0 o) (hk : ks.all (fun p => dead.contains p.1 || !(waitsB .any ops o p.1) || p.2 == i || edgeB ops p.2 i) = true) (hd : (match o.dst with | some d => !dead.contains d | none => true) = true) : OpOkR P ops Q (SPS tbl) ks Rl a0 i o := by
  intro a w hb hs hdf hsp
  obtain ⟨hw, hwp⟩ := h w hb a w (Below.refl _ _) hs hdf fun t ht => by
    by_cases htd : dead.contains t = true
    · intro s e
      rw [lookup_dead, if_pos htd] at e
      cases e
    · intro s e
      rw [lookup_dead, if_neg htd] at e
      refine hsp t ht (fun j hj => ?_) s e
      rw [List.all_eq_true] at hk
      have := hk (t, j) hj
      simp only [htd, ht, Bool.not_true, Bool.false_or, Bool.or_eq_true, beq_iff_eq, Bool.or_false] at this
      simpa using this
  refine .inl ⟨hw, Oper.wp_mono (fun a' w' => ?_) hwp⟩
  rintro ⟨v, rfl, hb', hv⟩
  refine ⟨v, rfl, hRl _ _ hb hb', fun t _ _ _ h => SPS.st tbl _ _ _ _ h hb', fun d e => ?_⟩
  have h2 := hv d e
  rw [e] at hd
  intro s hs2
  refine h2 s ?_
  rw [lookup_dead, if_neg (by simpa using hd)]
  exact hs2
theorem lookup_memS {β : Type} {t : Nat} {s : β} : ∀ {tbl : List (Nat × β)}, tbl.lookup t = some s → (t, s) ∈ tbl
  | [], h => by cases h
  | p :: l, h => by
    rw [List.lookup_cons] at h
    split at h
    · rename_i he
      injection h with h
      have : t = p.1 := by simpa using he
      rw [this, ← h]
      exact List.mem_cons_self ..
    · exact List.mem_cons_of_mem _ (lookup_memS h)
/-- What no world changes. -/
def Sp.Pure (s : Sp) : Prop := ∀ v w w', s.p v w → s.p v w'
theorem Sp.pure_val (x : Value) : (Sp.val x).Pure := fun _ _ _ h => h
/-- The append: it uses up what is in ks at i; all else that is told of slots holds in any world. -/
theorem rel_app {P : Program} {ops : Array Oper} {Q : Exit → Act → World → Prop} {ks : List (Nat × Nat)} {Rl : World → Prop} {a0 : Act} {o : Oper} {i d : Nat} {tbl : List (Nat × Sp)} (hd : o.dst = some d) (hg : o.guard = none)
    (hp : ∀ p ∈ tbl, p.2.Pure ∨ p.1 = d ∨ (p.1, i) ∈ ks)
    (h : ∀ (a : Act) (w : World), Rl w → (∀ t, waitsB .any ops o t = true → (∀ j, (t, j) ∈ ks → j = i ∨ edgeB ops j i = true) → SPS tbl t (a.tmps.getD t undef) w) → o.wp P a w (fun a' w' => ∃ v, a' = a.put o.dst v ∧ Rl w' ∧ SPS tbl d v w') Q) : OpOkR P ops Q (SPS tbl) ks Rl a0 i o := by
  intro a w hb hs hdf hsp
  refine .inl ⟨by simp [Region.wanted, hg], Oper.wp_mono (fun a' w' => ?_) (h a w hb hsp)⟩
  rintro ⟨v, h1, h2, h3⟩
  refine ⟨v, h1, h2, fun t ht _ hk hsp => ?_, fun d' e => by rw [hd] at e; injection e with e; subst e; exact h3⟩
  intro s hs2
  have hmem : (t, s) ∈ tbl := lookup_memS hs2
  rcases hp _ hmem with h4 | h4 | h4
  · exact h4 _ _ _ (hsp s hs2)
  · exact absurd (by rw [hd]; exact congrArg some h4.symm) ht
  · exact absurd h4 hk
end Go.Proofs.YtlgoaohklggcdaaGreatDoor

namespace Go.Proofs.YtlgoaohklggcdaaGreatDoor
open Go.RowKit Go.Sort

theorem encR_one (x : Kn) : ∀ u ∈ encR x, u.oneCell' = true := by
  intro u hu
  simp only [encR, List.mem_cons, List.not_mem_nil, or_false] at hu
  rcases hu with rfl | rfl | rfl | rfl | rfl <;> rfl
abbrev OwnRf (B : Nat) (v : Value) (l : List Kn) (w : World) : Prop := Own encR 5 78 B v l w
theorem rfInfo : (Tryz.prog.info? 78).map (fun i => (i.zero, i.size, i.bytes)) = some (some (.agg #[.int .i64 0, .int .i64 0, .int .i64 0, .int .i64 0, .string ⟨#[]⟩]), 5, 48) := by kernel_rfl
def spUp (Y : List Kn) (B : Nat) : Sp := ⟨fun v w => ∃ A c, v = .slice A Y.length c ∧ SlK1 w A Y ∧ ∀ b off, A = some ⟨b, off, none⟩ → B ≤ b, fun _ _ _ ⟨A, c, h1, h2, h3⟩ hb => ⟨A, c, h1, sl_bel h2 hb, h3⟩⟩
def spGh (B : Nat) (v : Value) (l : List Kn) : Sp := ⟨fun _ w => OwnRf B v l w, fun _ _ _ h hb => own_bel h hb⟩
def spOw (B : Nat) (v : Value) (l : List Kn) : Sp := ⟨fun u w => u = v ∧ OwnRf B v l w, fun _ _ _ h hb => ⟨h.1, own_bel h.2 hb⟩⟩
def spOwE (B : Nat) (l : List Kn) : Sp := ⟨fun u w => OwnRf B u l w, fun _ _ _ h hb => own_bel h hb⟩
theorem ownR_snoc {B : Nat} {v : Value} {l : List Kn} {x : Kn} {w : World} (h : w.ownsRow B 78 5 v (l.length + 1) (rowOf encR l ++ encR x)) : OwnRf B v (l ++ [x]) w := by
  show w.ownsRow B _ 5 v (l ++ [x]).length _
  rw [show (l ++ [x]).length = l.length + 1 by simp, rowOf_append, rowOf_one]
  exact h
/-- What holds while the document's facts are laid out. -/
structure FoI (w : World) (vb rb kb ob : Nat) (vw : Value) (X : Ls) (i : Nat) (V : Nat → Value) (W : World) : Prop where
  below : Below w.heap.size w W
  bv : Bk vb 27 #[vw] W
  br : Bk rb 42 #[.slice none 0 0, .slice none 0 0, .slice none 0 0, .slice none 0 0, .slice none 0 0] W
  bk : Bk kb 3 #[.int .i64 1, .int .i64 2, .int .i64 3, .int .i64 4, .int .i64 5] W
  bo : Bk ob 42 #[V 0, V 1, V 2, V 3, V 4] W
  done : ∀ j, j < i → ∃ A c, V j = .slice A (X.at_ j).length c ∧ Sl encR 5 W W.heap.size A (X.at_ j)
  todo : ∀ j, i ≤ j → j < 5 → V j = .slice none 0 0
theorem FoI.bel {w : World} {vb rb kb ob : Nat} {vw : Value} {X : Ls} {i : Nat} {V : Nat → Value} {W W' : World} (h : FoI w vb rb kb ob vw X i V W) (hb : Below W.heap.size W W') : FoI w vb rb kb ob vw X i V W' :=
  ⟨h.below.trans (hb.mono h.below.size), bk_bel h.bv hb, bk_bel h.br hb, bk_bel h.bk hb, bk_bel h.bo hb, fun j hj => by
    obtain ⟨A, c, h1, h2⟩ := h.done j hj
    exact ⟨A, c, h1, sl_bel h2 hb⟩, h.todo⟩
theorem FoI.step {w : World} {vb rb kb ob : Nat} {vw : Value} {X : Ls} {i : Nat} {V : Nat → Value} {W W' : World} {v : Value} (h : FoI w vb rb kb ob vw X i V W) (hi : i < 5) (hd : w.heap.size ≤ ob ∧ w.heap.size ≤ rb ∧ vb ≠ ob ∧ rb ≠ ob ∧ kb ≠ ob) (hg : W.grownBy W' (some ob)) (hbo : Bk ob 42 (#[V 0, V 1, V 2, V 3, V 4].setIfInBounds i v) W') (ho : OwnRf W.heap.size v (X.at_ i) W') : FoI w vb rb kb ob vw X (i + 1) (fun j => if j = i then v else V j) W' := by
  obtain ⟨A, c, e, _, hs⟩ := own_sl encR_len ho
  refine ⟨h.below.grown hg h.below.size (fun j hj => by cases hj; exact hd.1), h.bv.grownBy hg (by intro e; injection e with e; exact hd.2.2.1 e), h.br.grownBy hg (by intro e; injection e with e; exact hd.2.2.2.1 e), h.bk.grownBy hg (by intro e; injection e with e; exact hd.2.2.2.2 e), ?_, fun j hj => ?_, fun j h1 h2 => ?_⟩
  · have : i = 0 ∨ i = 1 ∨ i = 2 ∨ i = 3 ∨ i = 4 := by omega
    rcases this with rfl | rfl | rfl | rfl | rfl <;> exact hbo
  · by_cases hji : j = i
    · subst hji
      simp only [if_pos]
      exact ⟨A, c, e, hs⟩
    · simp only [if_neg hji]
      obtain ⟨A', c', h1, h2⟩ := h.done j (by omega)
      refine ⟨A', c', h1, fun hl => ?_⟩
      obtain ⟨b, off, e2, hlt, hc⟩ := h2 hl
      have hne : b ≠ ob := by
        rintro rfl
        obtain ⟨x, hx⟩ : ∃ x, (X.at_ j)[0]? = some x := ⟨_, List.getElem?_eq_getElem (List.length_pos_iff.2 hl)⟩
        have h3 := hc 0 x hx 0 _ rfl
        rw [h.bo.cell] at h3
        have : ∀ n, (#[V 0, V 1, V 2, V 3, V 4] : Array Value)[n]? ≠ some (Value.int .i64 x.1) := fun n h4 => by
          have hn : n < 5 := by
            rcases Nat.lt_or_ge n 5 with h5 | h5
            · exact h5
            · rw [Array.getElem?_eq_none (by simpa using h5)] at h4; cases h4
          have hsl : ∀ m, m < 5 → ∃ A n c, V m = .slice A n c := fun m hm => by
            by_cases hmi : m < i
            · obtain ⟨A, c, h, _⟩ := h.done m hmi; exact ⟨_, _, _, h⟩
            · exact ⟨_, _, _, h.todo m (by omega) hm⟩
          obtain ⟨A5, n5, c5, h5⟩ := hsl n hn
          have h6 : (#[V 0, V 1, V 2, V 3, V 4] : Array Value)[n]? = some (V n) := by
            have : n = 0 ∨ n = 1 ∨ n = 2 ∨ n = 3 ∨ n = 4 := by omega
            rcases this with rfl | rfl | rfl | rfl | rfl <;> rfl
          rw [h6, h5] at h4
          cases h4
        exact this _ h3
      exact ⟨b, off, e2, Nat.lt_of_lt_of_le hlt hg.size, fun m x hx q u hu => by
        have h3 := hc m x hx q u hu
        have h4 := hg.block b hlt (by intro e3; injection e3 with e3; exact hne e3)
        unfold World.cell? at h3 ⊢
        simp only [h4]
        exact h3⟩
  · simp only [if_neg (show ¬ j = i by omega)]
    exact h.todo j (by omega) h2
/-- What stays while a row of the document's facts is made. -/
structure LtI (wi : World) (Bi ob fb : Nat) (cs : Array Value) (f : Fa) (W : World) : Prop where
  size : Bi ≤ W.heap.size
  grow : wi.grownBy W (some ob)
  bo : Bk ob 42 cs W
  bf : Bk fb 61 (FA f) W
theorem grown_bel {a b c : World} {r : Option Nat} (h : a.grownBy b r) (k : Below b.heap.size b c) : a.grownBy c r :=
  ⟨k.os.trans h.os, k.tape.trans h.tape, k.output.trans h.output, Nat.le_trans h.size k.size, fun i hi hne => (k.block i (Nat.lt_of_lt_of_le hi h.size)).trans (h.block i hi hne)⟩
theorem LtI.bel {wi : World} {Bi ob fb : Nat} {cs : Array Value} {f : Fa} {W W' : World} (h : LtI wi Bi ob fb cs f W) (hb : Below W.heap.size W W') : LtI wi Bi ob fb cs f W' :=
  ⟨Nat.le_trans h.size hb.size, grown_bel h.grow hb, bk_bel h.bo hb, bk_bel h.bf hb⟩
theorem LtI.app {wi : World} {Bi ob fb : Nat} {cs : Array Value} {f : Fa} {W W' : World} {j : Option Nat} (h : LtI wi Bi ob fb cs f W) (hBi : Bi = wi.heap.size) (hob : ob < Bi) (hj : ∀ k, j = some k → Bi ≤ k) (hf : j ≠ some fb) (hg : W.grownBy W' j) : LtI wi Bi ob fb cs f W' :=
  ⟨Nat.le_trans h.size hg.size, h.grow.andThen hg (fun k hk => .inl (by rw [← hBi]; exact hj k hk)), h.bo.grownBy hg (fun e => by have := hj ob e.symm; omega), h.bf.grownBy hg (fun e => hf e.symm)⟩
theorem sl_off {T : TypeId} {rb : Nat} {cs : Array Value} {W W' : World} {A : Option Addr} {L : List Kn} (h : Sl encR 5 W W.heap.size A L) (hb : Bk rb T cs W) (hcs : ∀ (n : Nat) (z : Int), cs[n]? ≠ some (Value.int .i64 z)) (hg : W.grownBy W' (some rb)) : Sl encR 5 W' W'.heap.size A L := fun hl => by
  obtain ⟨b, off, e2, hlt, hc⟩ := h hl
  have hne : b ≠ rb := by
    rintro rfl
    obtain ⟨x, hx⟩ : ∃ x, L[0]? = some x := ⟨_, List.getElem?_eq_getElem (List.length_pos_iff.2 hl)⟩
    have h3 := hc 0 x hx 0 _ rfl
    rw [hb.cell] at h3
    exact hcs _ _ h3
  exact ⟨b, off, e2, Nat.lt_of_lt_of_le hlt hg.size, fun m x hx q u hu => by
    have h3 := hc m x hx q u hu
    have h4 := hg.block b hlt (by intro e3; injection e3 with e3; exact hne e3)
    unfold World.cell? at h3 ⊢
    simp only [h4]
    exact h3⟩
theorem FoI.fin {w : World} {vb rb kb ob : Nat} {vw : Value} {X : Ls} {V : Nat → Value} {W : World} (h : FoI w vb rb kb ob vw X 5 V W) (hr : w.heap.size ≤ rb) : Bk rb 42 #[V 0, V 1, V 2, V 3, V 4] (((((W.setCell ⟨rb, 0, none⟩ (V 0)).setCell ⟨rb, 1, none⟩ (V 1)).setCell ⟨rb, 2, none⟩ (V 2)).setCell ⟨rb, 3, none⟩ (V 3)).setCell ⟨rb, 4, none⟩ (V 4)) ∧ (∀ j, j < 5 → ∃ A c, V j = .slice A (X.at_ j).length c ∧ Sl encR 5 (((((W.setCell ⟨rb, 0, none⟩ (V 0)).setCell ⟨rb, 1, none⟩ (V 1)).setCell ⟨rb, 2, none⟩ (V 2)).setCell ⟨rb, 3, none⟩ (V 3)).setCell ⟨rb, 4, none⟩ (V 4)) (((((W.setCell ⟨rb, 0, none⟩ (V 0)).setCell ⟨rb, 1, none⟩ (V 1)).setCell ⟨rb, 2, none⟩ (V 2)).setCell ⟨rb, 3, none⟩ (V 3)).setCell ⟨rb, 4, none⟩ (V 4)).heap.size A (X.at_ j)) ∧ Below w.heap.size w (((((W.setCell ⟨rb, 0, none⟩ (V 0)).setCell ⟨rb, 1, none⟩ (V 1)).setCell ⟨rb, 2, none⟩ (V 2)).setCell ⟨rb, 3, none⟩ (V 3)).setCell ⟨rb, 4, none⟩ (V 4)) := by
  have hg : W.grownBy (((((W.setCell ⟨rb, 0, none⟩ (V 0)).setCell ⟨rb, 1, none⟩ (V 1)).setCell ⟨rb, 2, none⟩ (V 2)).setCell ⟨rb, 3, none⟩ (V 3)).setCell ⟨rb, 4, none⟩ (V 4)) (some rb) := (grown_trans (grown_trans (grown_trans (grown_trans (grown_trans (World.grownBy.refl W _) (gSet _ _ _)) (gSet _ _ _)) (gSet _ _ _)) (gSet _ _ _)) (gSet _ _ _))
  refine ⟨?_, fun j hj => ?_, h.below.grown hg h.below.size (fun k hk => by cases hk; exact hr)⟩
  · exact (((((h.br.set_ 0 (V 0)).set_ 1 (V 1)).set_ 2 (V 2)).set_ 3 (V 3)).set_ 4 (V 4))
  · obtain ⟨A, c, h1, h2⟩ := h.done j hj
    refine ⟨A, c, h1, sl_off h2 h.br (fun n z h3 => ?_) hg⟩
    have hn : n < 5 := by
      rcases Nat.lt_or_ge n 5 with h5 | h5
      · exact h5
      · rw [Array.getElem?_eq_none (by simpa using h5)] at h3; cases h3
    have : n = 0 ∨ n = 1 ∨ n = 2 ∨ n = 3 ∨ n = 4 := by omega
    rcases this with rfl | rfl | rfl | rfl | rfl <;> cases h3
theorem wp_store_rf {o : Oper} {a : Act} {w : World} {K : Act → World → Prop} {Q : Exit → Act → World → Prop} {d s g n c ob i : Nat} {v : Value} (hop : o.op = .store 40 (.tmp d) (.tmp s))
    (hp : a.tmps.getD d undef = .pointer (some ⟨ob, i, none⟩)) (hs : a.tmps.getD s undef = .slice (some ⟨g, 0, none⟩) n c) (hc : w.cell? ⟨ob, i, none⟩ = some v) (hf : w.frozen? ⟨ob, i, none⟩ = false) (h : K (a.put o.dst undef) (w.setCell ⟨ob, i, none⟩ (.slice (some ⟨g, 0, none⟩) n c))) : o.wp Tryz.prog a w K Q := by
  have h1 : a.eval (.tmp d) = .pointer (some ⟨ob, i, none⟩) := hp
  have h2 : a.eval (.tmp s) = .slice (some ⟨g, 0, none⟩) n c := hs
  unfold Oper.wp execOp
  simp only [hop, h1, h2]
  go_simp
  exact h
theorem wp_store_end {o : Oper} {a : Act} {w : World} {K : Act → World → Prop} {Q : Exit → Act → World → Prop} {d s ob i B : Nat} {v u : Value} {l : List Kn} (hop : o.op = .store 40 (.tmp d) (.tmp s))
    (hp : a.tmps.getD d undef = .pointer (some ⟨ob, i, none⟩)) (hs : a.tmps.getD s undef = u) (ho : OwnRf B u l w) (hl : l ≠ []) (hc : w.cell? ⟨ob, i, none⟩ = some v) (hf : w.frozen? ⟨ob, i, none⟩ = false) (h : K (a.put o.dst undef) (w.setCell ⟨ob, i, none⟩ u)) : o.wp Tryz.prog a w K Q := by
  obtain ⟨g, c, e, _⟩ := Own.row encR_len ho hl
  subst e
  exact wp_store_rf hop hp hs hc hf h
set_option maxHeartbeats 8000000 in
set_option maxRecDepth 100000 in
theorem la_facts (L : List Fa) (AV : Option Addr) (cV : Nat) (pe : Int) (w : World) (hn : L.length ≤ 4096) (hs : SlF w AV L) :
    Calls Tryz.prog 21 #[.agg #[.slice AV L.length cV], .int .u32 pe] w fun e w' => ∃ V : Nat → Value, e = .returned (.agg #[V 0, V 1, V 2, V 3, V 4]) ∧ (∀ i, i < 5 → ∃ A c, V i = .slice A ((lsOf L pe).at_ i).length c ∧ Sl encR 5 w' w'.heap.size A ((lsOf L pe).at_ i)) ∧ Below w.heap.size w w' := by
  obtain ⟨vb, hvb⟩ : ∃ x, w.heap.size = x := ⟨_, rfl⟩
  obtain ⟨rb, hrb⟩ : ∃ x, vb + 1 = x := ⟨_, rfl⟩
  obtain ⟨kb, hkb⟩ : ∃ x, rb + 1 = x := ⟨_, rfl⟩
  obtain ⟨ob, hob⟩ : ∃ x, kb + 1 = x := ⟨_, rfl⟩
  obtain ⟨w2, hw2⟩ : ∃ x, (((w.alloc (.cells #[.slice AV L.length cV] 27)).alloc (.cells #[.slice none 0 0, .slice none 0 0, .slice none 0 0, .slice none 0 0, .slice none 0 0] 42)).alloc (.cells #[.int .i64 1, .int .i64 2, .int .i64 3, .int .i64 4, .int .i64 5] 3)).alloc (.cells #[.slice none 0 0, .slice none 0 0, .slice none 0 0, .slice none 0 0, .slice none 0 0] 42) = x := ⟨_, rfl⟩
  have HW : Hid (Below w.heap.size w w2 ∧ Bk vb 27 #[.slice AV L.length cV] w2 ∧ Bk rb 42 #[.slice none 0 0, .slice none 0 0, .slice none 0 0, .slice none 0 0, .slice none 0 0] w2 ∧ Bk kb 3 #[.int .i64 1, .int .i64 2, .int .i64 3, .int .i64 4, .int .i64 5] w2 ∧ Bk ob 42 #[.slice none 0 0, .slice none 0 0, .slice none 0 0, .slice none 0 0, .slice none 0 0] w2) := Lib.hid (by
    have s1 : (w.alloc (.cells #[.slice AV L.length cV] 27)).heap.size = rb := by simp; omega
    have s2 : ((w.alloc (.cells #[.slice AV L.length cV] 27)).alloc (.cells #[.slice none 0 0, .slice none 0 0, .slice none 0 0, .slice none 0 0, .slice none 0 0] 42)).heap.size = kb := by simp; omega
    have s3 : (((w.alloc (.cells #[.slice AV L.length cV] 27)).alloc (.cells #[.slice none 0 0, .slice none 0 0, .slice none 0 0, .slice none 0 0, .slice none 0 0] 42)).alloc (.cells #[.int .i64 1, .int .i64 2, .int .i64 3, .int .i64 4, .int .i64 5] 3)).heap.size = ob := by simp; omega
    have b1 := Bk.new w 27 #[.slice AV L.length cV]
    have b2 := Bk.new (w.alloc (.cells #[.slice AV L.length cV] 27)) 42 #[.slice none 0 0, .slice none 0 0, .slice none 0 0, .slice none 0 0, .slice none 0 0]
    have b3 := Bk.new ((w.alloc (.cells #[.slice AV L.length cV] 27)).alloc (.cells #[.slice none 0 0, .slice none 0 0, .slice none 0 0, .slice none 0 0, .slice none 0 0] 42)) 3 #[.int .i64 1, .int .i64 2, .int .i64 3, .int .i64 4, .int .i64 5]
    have b4 := Bk.new (((w.alloc (.cells #[.slice AV L.length cV] 27)).alloc (.cells #[.slice none 0 0, .slice none 0 0, .slice none 0 0, .slice none 0 0, .slice none 0 0] 42)).alloc (.cells #[.int .i64 1, .int .i64 2, .int .i64 3, .int .i64 4, .int .i64 5] 3)) 42 #[.slice none 0 0, .slice none 0 0, .slice none 0 0, .slice none 0 0, .slice none 0 0]
    rw [hvb] at b1
    rw [s1] at b2
    rw [s2] at b3
    rw [s3, hw2] at b4
    refine ⟨?_, ?_, ?_, ?_, b4⟩
    · rw [← hw2]; exact ((((Grows.of_alloc _ _).alloc _).alloc _).alloc _).below
    · rw [← hw2]; exact b1.grows (((Grows.of_alloc _ _).alloc _).alloc _)
    · rw [← hw2]; exact b2.grows ((Grows.of_alloc _ _).alloc _)
    · rw [← hw2]; exact b3.grows (Grows.of_alloc _ _))
  have HD : Hid (w.heap.size ≤ ob ∧ w.heap.size ≤ rb ∧ vb ≠ ob ∧ rb ≠ ob ∧ kb ≠ ob) := Lib.hid (by omega)
  have HSL : Hid (∀ W, Below w.heap.size w W → SlF W AV L) := Lib.hid fun W hW => hs.below hW
  have HN := Lib.hid hn
  obtain ⟨X, hX⟩ : ∃ X, lsOf L pe = X := ⟨_, rfl⟩
  have HXA : Hid (∀ i, i < 5 → X.at_ i = chosen (ofPK pe ((i : Int) + 1)) L L.length) := Lib.hid fun i hi => by rw [← hX]; exact lsOf_at L pe hi
  rw [hX]
  have HE := Lib.hid (And.intro hvb (And.intro hrb (And.intro hkb (And.intro hob hw2))))
  clear hvb hrb hkb hob hw2 hs hn hX
  go_enter Tryz.func21, Tryz.ntmps21
  go_upto_region 3 with fail
  simp only [HE.out.1, HE.out.2.1, HE.out.2.2.1, HE.out.2.2.2.1, HE.out.2.2.2.2]
  clear HE
  go_wp2
  go_loopw [7, 8, 9, 10] (fun iv _ _ _ wr => ∃ (i : Nat) (V : Nat → Value), i ≤ 5 ∧ iv = .int .i64 i ∧ Hid (FoI w vb rb kb ob (.slice AV L.length cV) X i V wr)) (fun iv _ _ _ _ => 5 - (intOf iv).toNat)
  case atStart => exact ⟨0, fun _ => .slice none 0 0, Nat.zero_le _, rfl, Lib.hid ⟨HW.out.1, HW.out.2.1, HW.out.2.2.1, HW.out.2.2.2.1, HW.out.2.2.2.2, fun j hj => absurd hj (Nat.not_lt_zero _), fun _ _ _ => rfl⟩⟩
  case round =>
    obtain ⟨i, V, hi, rfl, HF⟩ := hrel
    clear HW
    by_cases hlt : i < 5
    · obtain ⟨w6, rfl⟩ : ∃ x : World, x = wr := ⟨_, rfl⟩
      obtain ⟨kd, hkd⟩ : ∃ z, (i : Int) + 1 = z := ⟨_, rfl⟩
      obtain ⟨Y, hY⟩ : ∃ Y, X.at_ i = Y := ⟨_, rfl⟩
      have hYl : Y.length ≤ 4096 := by rw [← hY, HXA.out i hlt]; exact Nat.le_trans (chosen_len _ _ _) HN.out
      have HFA : Hid (∀ W, Below w6.heap.size w6 W → Calls Tryz.prog 50 #[.agg #[.slice AV L.length cV], .int .u32 pe, .int .i64 kd] W fun e w' => ∃ A c, e = .returned (.slice A Y.length c) ∧ Below W.heap.size W w' ∧ SlK1 w' A Y ∧ ∀ b off, A = some ⟨b, off, none⟩ → w6.heap.size ≤ b) := Lib.hid fun W hW => (vi_Facts L AV cV pe kd W HN.out (HSL.out W (HF.out.below.trans (hW.mono HF.out.below.size)))).mono fun e w' ⟨⟨v, h1, h2⟩, h3⟩ => by
        rw [← hkd, ← HXA.out i hlt, hY] at h2
        obtain ⟨A, c, rfl, _, h4⟩ := own_sl encK_len h2
        refine ⟨A, c, h1, h3, h4, fun b off e => ?_⟩
        have := (Own.lt h2 (b := b) (by rw [e]; rfl)).1
        have := hW.size
        omega
      have HC : Hid (∀ W, Below w6.heap.size w6 W → W.cell? ⟨vb, 0, none⟩ = some (.slice AV L.length cV) ∧ W.cell? ⟨kb, i, none⟩ = some (.int .i64 kd)) := Lib.hid fun W hW => ⟨bCell hW (HF.out.bv.cell 0), bCell hW (by
        rw [HF.out.bk.cell i, ← hkd]
        have : i = 0 ∨ i = 1 ∨ i = 2 ∨ i = 3 ∨ i = 4 := by omega
        rcases this with rfl | rfl | rfl | rfl | rfl <;> rfl)⟩
      have hlt2 : (i : Int) < 5 := by omega
      have HYE := Lib.hid hY
      clear hkd hY
      go_upto_region 6 with fail
      go_cut [8] from 12 to 22 (fun lv wx => (∃ A8 c8, lv = .slice A8 Y.length c8 ∧ Hid (SlK1 wx A8 Y ∧ ∀ b off, A8 = some ⟨b, off, none⟩ → w6.heap.size ≤ b)) ∧ Hid (Below w6.heap.size w6 wx))
      case first =>
        refine wp_region_use (SPS [(2, Sp.val (.pointer (some ⟨vb, 0, none⟩))), (1, Sp.val (.int .u32 pe)), (5, Sp.val (.slice (some ⟨kb, 0, none⟩) 5 5)), (7, Sp.val (.int .i64 i)), (16, Sp.val (.agg #[.slice AV L.length cV])), (17, Sp.val (.int .u32 pe)), (18, Sp.val (.slice (some ⟨kb, 0, none⟩) 5 5)), (19, Sp.val (.int .i64 i)), (20, Sp.val (.pointer (some ⟨kb, i, none⟩))), (21, Sp.val (.int .i64 kd)), (22, (spUp Y w6.heap.size)), (8, (spUp Y w6.heap.size))]) [] [16, 17, 18, 19, 20, 21, 22, 8] rfl (by rfl) (by kernel_rfl) (SPS.st _) (by rfl) ?_ (opsK_all ?_) ?_
        · exact sps_start (cons_all rfl (cons_all rfl (cons_all rfl (cons_all rfl (nil_all)))))
        · refine opsK_cons (by
           exact use_s [] (opOk_load (p := ⟨vb, 0, none⟩) rfl rfl (.inl rfl) (by kernel_rfl) (fun _ _ h => h.get rfl) (fun W hW => by
              obtain ⟨k0, k1⟩ := HC.out _ hW
              exact ⟨.agg #[.slice AV L.length cV], by go_simp, sps rfl rfl⟩)) (by kernel_rfl) (by rfl)) ?_
          refine opsK_cons (by
           exact use_s [] (opOk_move rfl rfl (.inl rfl) (by kernel_rfl) (fun _ _ h => sps rfl (h.get rfl))) (by kernel_rfl) (by rfl)) ?_
          refine opsK_cons (by
           exact use_s [] (opOk_move rfl rfl (.inl rfl) (by kernel_rfl) (fun _ _ h => sps rfl (h.get rfl))) (by kernel_rfl) (by rfl)) ?_
          refine opsK_cons (by
           exact use_s [] (opOk_move rfl rfl (.inl rfl) (by kernel_rfl) (fun _ _ h => sps rfl (h.get rfl))) (by kernel_rfl) (by rfl)) ?_
          refine opsK_cons (by
           exact use_s [] (opOk_run rfl (.inl rfl) (fun a W hW hsp => by
              have e18 : a.eval (.tmp 18) = .slice (some ⟨kb, 0, none⟩) 5 5 := (hsp 18 (by kernel_rfl)).get rfl
              have e19 : a.eval (.tmp 19) = .int .i64 i := (hsp 19 (by kernel_rfl)).get rfl
              refine ⟨.pointer (some ⟨kb, i, none⟩), ?_, sps rfl rfl⟩
              unfold execOp
              simp only [e18, e19]
              go_simp)) (by kernel_rfl) (by rfl)) ?_
          refine opsK_cons (by
           exact use_s [] (opOk_load (p := ⟨kb, i, none⟩) rfl rfl (.inl rfl) (by kernel_rfl) (fun _ _ h => h.get rfl) (fun W hW => by
              obtain ⟨k0, k1⟩ := HC.out _ hW
              exact ⟨.int .i64 kd, by go_simp, sps rfl rfl⟩)) (by kernel_rfl) (by rfl)) ?_
          refine opsK_cons (by
           exact use_s [] (opOk_callg (fun a => #[a.eval (.tmp 16), a.eval (.tmp 17), a.eval (.tmp 21)]) rfl rfl (.inl rfl) (fun a => by simp only [List.map_toArray, List.map_cons, List.map_nil] <;> rfl) (fun args W => by go_simp) (fun a W hW hsp => by
              have e16 : a.eval (.tmp 16) = .agg #[.slice AV L.length cV] := (hsp 16 (by kernel_rfl)).get rfl
              have e17 : a.eval (.tmp 17) = .int .u32 pe := (hsp 17 (by kernel_rfl)).get rfl
              have e21 : a.eval (.tmp 21) = .int .i64 kd := (hsp 21 (by kernel_rfl)).get rfl
              simp only [e16, e17, e21]
              exact (HFA.out _ hW).mono fun e w' ⟨A, c, he, hb, hs, hl⟩ => ⟨_, he, hb, sps rfl ⟨A, c, rfl, hs, hl⟩⟩)) (by kernel_rfl) (by rfl)) ?_
          refine opsK_cons (by
           exact use_s [] (opOk_assign rfl rfl (.inl rfl) (by kernel_rfl) (fun _ _ h => sps rfl (h.get rfl))) (by kernel_rfl) (by rfl)) ?_
          exact opsK_nil
        · intro vs W3 hb hsp
          obtain ⟨A8, c8, z8, hs8, hl8⟩ := (hsp 8 (by simp)).get rfl
          simp only [putAll]
          go_simp
          go_step
          go_meet
          exact ⟨⟨A8, c8, by first | rfl | exact z8, Lib.hid ⟨hs8, hl8⟩⟩, Lib.hid hb⟩
      case rest =>
        obtain ⟨⟨A8, c8, rfl, HS8⟩, HB8⟩ := hcut
        obtain ⟨wi, rfl⟩ : ∃ x : World, x = wc := ⟨_, rfl⟩
        have HF8 : Hid (FoI w vb rb kb ob (.slice AV L.length cV) X i V wi) := Lib.hid (HF.out.bel HB8.out)
        have hob6 : ob < w6.heap.size := HF.out.bo.lt
        have HBS : Hid (ob < wi.heap.size ∧ ob < w6.heap.size) := Lib.hid ⟨Nat.lt_of_lt_of_le hob6 HB8.out.size, hob6⟩
        obtain ⟨cs, hcs⟩ : ∃ cs, #[V 0, V 1, V 2, V 3, V 4] = cs := ⟨_, rfl⟩
        have HCS := Lib.hid hcs
        have HBO : Hid (Bk ob 42 cs wi) := Lib.hid (by rw [← hcs]; exact HF8.out.bo)
        have HC0 : Hid (cs.setIfInBounds i (.slice none 0 0) = cs) := Lib.hid (by
          rw [← HF8.out.todo i (Nat.le_refl _) hlt, ← hcs]
          have : i = 0 ∨ i = 1 ∨ i = 2 ∨ i = 3 ∨ i = 4 := by omega
          rcases this with rfl | rfl | rfl | rfl | rfl <;> rfl)
        have HC5 : Hid (cs.size = 5) := Lib.hid (by rw [← hcs]; rfl)
        clear HC HFA HF hob6 hcs
        go_wp2
        go_loopw [9, 10] (fun kv _ wr => ∃ k : Nat, k ≤ Y.length ∧ kv = .int .i64 k ∧ ∃ v, Hid (OwnRf wi.heap.size v (Y.take k) wr) ∧ Hid (wi.grownBy wr (some ob)) ∧ Hid (Bk ob 42 (cs.setIfInBounds i v) wr)) (fun kv _ _ => Y.length - (intOf kv).toNat)
        case atStart => exact ⟨0, Nat.zero_le _, rfl, .slice none 0 0, Lib.hid (Own.nil _), Lib.hid (World.grownBy.refl _ _), by rw [HC0.out]; exact HBO⟩
        case round =>
          obtain ⟨k, hk, rfl, v, HO, HG, HBO2⟩ := hrel
          by_cases hlk : k < Y.length
          · obtain ⟨x, hx⟩ : ∃ x, Y[k]? = some x := ⟨_, List.getElem?_eq_getElem hlk⟩
            obtain ⟨lb, off, rfl, hbl, hat⟩ := HS8.out.1 (by intro h; simp [h] at hlk)
            have hlb := HS8.out.2 lb off rfl
            have hkc : ∀ j u, (encK x)[j]? = some u → wr.cell? ⟨lb, off + k * 9 + j, none⟩ = some u := fun j u hu => by
              have h1 := hat k x hx j u hu
              have h2 := HG.out.block lb hbl (by intro e; injection e with e; have := HBS.out; omega)
              unfold World.cell? at h1 ⊢
              simp only [h2]
              exact h1
            obtain ⟨G0, G1, G2, G3, G4, G5, G6, G7, G8⟩ := kcells hkc
            have hlk2 : (k : Int) < (Y.length : Int) := by omega
            obtain ⟨fb, hfb⟩ : ∃ z, wr.heap.size = z := ⟨_, rfl⟩
            obtain ⟨w9, hw9⟩ : ∃ z, wr.alloc (.cells #[.int .u32 x.2.id, .int .u32 x.2.pe, .int .i64 x.2.ki, .int .i64 x.2.fr, .int .i64 x.2.to, .string x.2.co, .int .i64 x.2.nu, .string x.2.tx] 61) = z := ⟨_, rfl⟩
            obtain ⟨Bi, hBi⟩ : ∃ z, wi.heap.size = z := ⟨_, rfl⟩
            obtain ⟨ob_cs, hob⟩ : ∃ z, cs.setIfInBounds i v = z := ⟨_, rfl⟩
            rw [hob] at HBO2
            rw [hBi] at HO HBS
            have hg9 : wr.grownBy w9 none := by rw [← hw9]; exact World.grownBy_alloc _ _ _
            have HR9 : Hid (LtI wi Bi ob fb ob_cs x.2 w9) := Lib.hid ⟨by rw [← hBi]; exact Nat.le_trans HG.out.size hg9.size, HG.out.andThen hg9 (fun j hj => by cases hj), HBO2.out.grownBy hg9 (by simp), by rw [← hw9, ← hfb]; exact Bk.new _ _ _⟩
            have HR0 : Hid (LtI wi Bi ob fb ob_cs x.2 w9.drew) := Lib.hid (HR9.out.bel (bDrew w9))
            have HOG : Hid (OwnRf Bi v (Y.take k) w9.drew) := Lib.hid (own_bel (own_bel HO.out (gBel hg9)) (bDrew w9))
            have HFB : Hid (∀ j, v.ownBlock = some j → Bi ≤ j ∧ j < fb) := Lib.hid fun j hj => by have := Own.lt HO.out hj; omega
            have HRL : Hid (∀ w w', LtI wi Bi ob fb ob_cs x.2 w → Below w.heap.size w w' → LtI wi Bi ob fb ob_cs x.2 w') := Lib.hid fun w w' h hb => h.bel hb
            have HRA : Hid (∀ W W', LtI wi Bi ob fb ob_cs x.2 W → W.grownBy W' v.ownBlock → LtI wi Bi ob fb ob_cs x.2 W') := Lib.hid fun W W' h hg => h.app hBi.symm HBS.out.1 (fun k hk => (HFB.out k hk).1) (fun e => by have := (HFB.out fb e).2; omega) hg
            have HKC : Hid (∀ W, LtI wi Bi ob fb ob_cs x.2 W → W.cell? ⟨ob, i, none⟩ = some v ∧ W.cell? ⟨lb, off + k * 9, none⟩ = some (.int .i64 x.1) ∧ W.cell? ⟨fb, 3, none⟩ = some (.int .i64 x.2.fr) ∧ W.cell? ⟨fb, 4, none⟩ = some (.int .i64 x.2.to) ∧ W.cell? ⟨fb, 6, none⟩ = some (.int .i64 x.2.nu) ∧ W.cell? ⟨fb, 7, none⟩ = some (.string x.2.tx)) := Lib.hid fun W h => ⟨by
                rw [h.bo.cell i, ← hob, Array.getElem?_setIfInBounds]
                have := HC5.out
                simp; omega, by
                have h1 := hat k x hx 0 _ rfl
                have h2 := h.grow.block lb hbl (by intro e; injection e with e; have := HBS.out; omega)
                unfold World.cell? at h1 ⊢
                simp only [h2]
                simpa using h1, h.bf.cell 3, h.bf.cell 4, h.bf.cell 6, h.bf.cell 7⟩
            have HTK : Hid (Y.take (k + 1) = Y.take k ++ [x]) := Lib.hid (by rw [List.take_add_one, hx]; rfl)
            have HSS : Hid (∀ u, cs.setIfInBounds i u = ob_cs.setIfInBounds i u) := Lib.hid fun u => by rw [← hob, Array.setIfInBounds_setIfInBounds]
            have HST : Hid (∀ W u, LtI wi Bi ob fb ob_cs x.2 W → OwnRf Bi u (Y.take k ++ [x]) W → OwnRf Bi u (Y.take k ++ [x]) (W.setCell ⟨ob, i, none⟩ u) ∧ wi.grownBy (W.setCell ⟨ob, i, none⟩ u) (some ob) ∧ Bk ob 42 (ob_cs.setIfInBounds i u) (W.setCell ⟨ob, i, none⟩ u)) := Lib.hid fun W u h ho => ⟨ho.kept (gSet W i u) (.inr (fun e => Own.far ho HBS.out.1 e.symm)), h.grow.andThen (gSet W i u) (fun j hj => .inr hj), h.bo.set_ i u⟩
            have HLN : Hid ((Y.take k).length + 1 ≤ maxLen ∧ ((Y.take k).length + 1) * 48 ≤ 140737488355328) := Lib.hid (by
              have : (Y.take k).length ≤ 4096 := by rw [List.length_take]; omega
              unfold maxLen
              omega)
            obtain ⟨i0, hi0, hi1, hi2, hi3⟩ := info_parts rfInfo
            have HJ0 := Lib.hid hi0
            have HJ1 := Lib.hid hi1
            have HJ2 := Lib.hid hi2
            have HJ3 := Lib.hid hi3
            have HE := Lib.hid (And.intro hfb hw9)
            have HBI := Lib.hid hBi
            clear hi0 hi1 hi2 hi3 hfb hw9 hkc hat hx hob hg9 HO HG HBO2 HR9 hlb
            go_upto_region 11 with fail
            rw [HE.out.1, HE.out.2]
            clear HE G0 G1 G2 G3 G4 G5 G6 G7 G8
            refine wp_region_rel (SPS [(5, (spGh Bi v (Y.take k))), (6, Sp.val (.pointer (some ⟨ob, 0, none⟩))), (7, Sp.val (.int .i64 i)), (8, Sp.val (.slice (some ⟨lb, off, none⟩) Y.length c8)), (9, Sp.val (.int .i64 k)), (10, Sp.val (.pointer (some ⟨fb, 0, none⟩))), (34, Sp.val (.int .i64 i)), (35, Sp.val (.int .i64 i)), (36, Sp.val (.pointer (some ⟨ob, i, none⟩))), (37, (spOw Bi v (Y.take k))), (38, Sp.val (.slice (some ⟨lb, off, none⟩) Y.length c8)), (39, Sp.val (.int .i64 k)), (40, Sp.val (.pointer (some ⟨lb, off + k * 9, none⟩))), (41, Sp.val (.pointer (some ⟨lb, off + k * 9, none⟩))), (42, Sp.val (.int .i64 x.1)), (43, Sp.val (.pointer (some ⟨fb, 3, none⟩))), (44, Sp.val (.int .i64 x.2.fr)), (45, Sp.val (.pointer (some ⟨fb, 4, none⟩))), (46, Sp.val (.int .i64 x.2.to)), (47, Sp.val (.pointer (some ⟨fb, 6, none⟩))), (48, Sp.val (.int .i64 x.2.nu)), (49, Sp.val (.pointer (some ⟨fb, 7, none⟩))), (50, Sp.val (.string x.2.tx)), (51, Sp.val (.agg #[.int .i64 x.1, .int .i64 x.2.fr, .int .i64 x.2.to, .int .i64 x.2.nu, .string x.2.tx])), (52, (spRow Bi 78 #[.int .i64 x.1, .int .i64 x.2.fr, .int .i64 x.2.to, .int .i64 x.2.nu, .string x.2.tx])), (53, (spOwE Bi (Y.take k ++ [x]))), (54, Sp.val (.pointer (some ⟨ob, i, none⟩)))]) [(5, 19), (37, 19), (52, 19)] (LtI wi Bi ob fb ob_cs x.2) 21 [34, 35, 36, 37, 38, 39, 40, 41, 42, 43, 44, 45, 46, 47, 48, 49, 50, 51, 52, 53, 54] rfl (by rfl) (by kernel_rfl) (by kernel_rfl) (.store 40 (.tmp 54) (.tmp 53)) (fun o ho => by cases ho; exact ⟨rfl, rfl, rfl⟩) (by rfl) ?_ ?_ (opsK_all ?_) ?_
            · exact HR0.out
            · exact sps_start (cons_all HOG.out (cons_all rfl (cons_all rfl (cons_all rfl (cons_all rfl (cons_all rfl (nil_all)))))))
            · refine opsK_cons (by
               exact rel_n (rel_s HRL.out [5] (fun w1 hR1 => opOk_move rfl rfl (.inl rfl) (by kernel_rfl) (fun _ _ h => sps rfl (h.get rfl))) (by kernel_rfl) (by rfl))) ?_
              refine opsK_cons (by
               exact rel_n (rel_s HRL.out [5] (fun w1 hR1 => opOk_move rfl rfl (.inl rfl) (by kernel_rfl) (fun _ _ h => sps rfl (h.get rfl))) (by kernel_rfl) (by rfl))) ?_
              refine opsK_cons (by
               exact rel_n (rel_s HRL.out [5] (fun w1 hR1 => opOk_run rfl (.inl rfl) (fun a W hW hsp => by
                  have e6 : a.eval (.tmp 6) = .pointer (some ⟨ob, 0, none⟩) := (hsp 6 (by kernel_rfl)).get rfl
                  have e35 : a.eval (.tmp 35) = .int .i64 i := (hsp 35 (by kernel_rfl)).get rfl
                  refine ⟨.pointer (some ⟨ob, i, none⟩), ?_, sps rfl rfl⟩
                  unfold execOp
                  simp only [e6, e35]
                  go_simp)) (by kernel_rfl) (by rfl))) ?_
              refine opsK_cons (by
               exact rel_n (rel_s HRL.out [] (fun w1 hR1 => opOk_run rfl (.inl rfl) (fun a W hW hsp => by
                  obtain ⟨k0, k1, k2, k3, k4, k5⟩ := HKC.out _ (HRL.out _ _ hR1 hW)
                  have e36 : a.eval (.tmp 36) = .pointer (some ⟨ob, i, none⟩) := (hsp 36 (by kernel_rfl)).get rfl
                  have h5 : OwnRf Bi v (Y.take k) W := (hsp 5 (by kernel_rfl)).get rfl
                  refine ⟨v, ?_, sps rfl ⟨rfl, h5⟩⟩
                  unfold execOp
                  simp only [e36]
                  go_simp)) (by kernel_rfl) (by rfl))) ?_
              refine opsK_cons (by
               exact rel_n (rel_s HRL.out [5] (fun w1 hR1 => opOk_move rfl rfl (.inl rfl) (by kernel_rfl) (fun _ _ h => sps rfl (h.get rfl))) (by kernel_rfl) (by rfl))) ?_
              refine opsK_cons (by
               exact rel_n (rel_s HRL.out [5] (fun w1 hR1 => opOk_move rfl rfl (.inl rfl) (by kernel_rfl) (fun _ _ h => sps rfl (h.get rfl))) (by kernel_rfl) (by rfl))) ?_
              refine opsK_cons (by
               exact rel_n (rel_s HRL.out [5] (fun w1 hR1 => opOk_run rfl (.inl rfl) (fun a W hW hsp => by
                  have e38 : a.eval (.tmp 38) = .slice (some ⟨lb, off, none⟩) Y.length c8 := (hsp 38 (by kernel_rfl)).get rfl
                  have e39 : a.eval (.tmp 39) = .int .i64 k := (hsp 39 (by kernel_rfl)).get rfl
                  refine ⟨.pointer (some ⟨lb, off + k * 9, none⟩), ?_, sps rfl rfl⟩
                  unfold execOp
                  simp only [e38, e39]
                  go_simp)) (by kernel_rfl) (by rfl))) ?_
              refine opsK_cons (by
               exact rel_n (rel_s HRL.out [5] (fun w1 hR1 => opOk_run rfl (.inl rfl) (fun a W hW hsp => by
                  have e40 : a.eval (.tmp 40) = .pointer (some ⟨lb, off + k * 9, none⟩) := (hsp 40 (by kernel_rfl)).get rfl
                  refine ⟨.pointer (some ⟨lb, off + k * 9, none⟩), ?_, sps rfl rfl⟩
                  unfold execOp
                  simp only [e40]
                  go_simp)) (by kernel_rfl) (by rfl))) ?_
              refine opsK_cons (by
               exact rel_n (rel_s HRL.out [5] (fun w1 hR1 => opOk_load (p := ⟨lb, off + k * 9, none⟩) rfl rfl (.inl rfl) (by kernel_rfl) (fun _ _ h => h.get rfl) (fun W hW => by
                  obtain ⟨k0, k1, k2, k3, k4, k5⟩ := HKC.out _ (HRL.out _ _ hR1 hW)
                  exact ⟨.int .i64 x.1, by go_simp, sps rfl rfl⟩)) (by kernel_rfl) (by rfl))) ?_
              refine opsK_cons (by
               exact rel_n (rel_s HRL.out [5] (fun w1 hR1 => opOk_run rfl (.inl rfl) (fun a W hW hsp => by
                  have e10 : a.eval (.tmp 10) = .pointer (some ⟨fb, 0, none⟩) := (hsp 10 (by kernel_rfl)).get rfl
                  refine ⟨.pointer (some ⟨fb, 3, none⟩), ?_, sps rfl rfl⟩
                  unfold execOp
                  simp only [e10]
                  go_simp)) (by kernel_rfl) (by rfl))) ?_
              refine opsK_cons (by
               exact rel_n (rel_s HRL.out [5] (fun w1 hR1 => opOk_load (p := ⟨fb, 3, none⟩) rfl rfl (.inl rfl) (by kernel_rfl) (fun _ _ h => h.get rfl) (fun W hW => by
                  obtain ⟨k0, k1, k2, k3, k4, k5⟩ := HKC.out _ (HRL.out _ _ hR1 hW)
                  exact ⟨.int .i64 x.2.fr, by go_simp, sps rfl rfl⟩)) (by kernel_rfl) (by rfl))) ?_
              refine opsK_cons (by
               exact rel_n (rel_s HRL.out [5] (fun w1 hR1 => opOk_run rfl (.inl rfl) (fun a W hW hsp => by
                  have e10 : a.eval (.tmp 10) = .pointer (some ⟨fb, 0, none⟩) := (hsp 10 (by kernel_rfl)).get rfl
                  refine ⟨.pointer (some ⟨fb, 4, none⟩), ?_, sps rfl rfl⟩
                  unfold execOp
                  simp only [e10]
                  go_simp)) (by kernel_rfl) (by rfl))) ?_
              refine opsK_cons (by
               exact rel_n (rel_s HRL.out [5] (fun w1 hR1 => opOk_load (p := ⟨fb, 4, none⟩) rfl rfl (.inl rfl) (by kernel_rfl) (fun _ _ h => h.get rfl) (fun W hW => by
                  obtain ⟨k0, k1, k2, k3, k4, k5⟩ := HKC.out _ (HRL.out _ _ hR1 hW)
                  exact ⟨.int .i64 x.2.to, by go_simp, sps rfl rfl⟩)) (by kernel_rfl) (by rfl))) ?_
              refine opsK_cons (by
               exact rel_n (rel_s HRL.out [5] (fun w1 hR1 => opOk_run rfl (.inl rfl) (fun a W hW hsp => by
                  have e10 : a.eval (.tmp 10) = .pointer (some ⟨fb, 0, none⟩) := (hsp 10 (by kernel_rfl)).get rfl
                  refine ⟨.pointer (some ⟨fb, 6, none⟩), ?_, sps rfl rfl⟩
                  unfold execOp
                  simp only [e10]
                  go_simp)) (by kernel_rfl) (by rfl))) ?_
              refine opsK_cons (by
               exact rel_n (rel_s HRL.out [5] (fun w1 hR1 => opOk_load (p := ⟨fb, 6, none⟩) rfl rfl (.inl rfl) (by kernel_rfl) (fun _ _ h => h.get rfl) (fun W hW => by
                  obtain ⟨k0, k1, k2, k3, k4, k5⟩ := HKC.out _ (HRL.out _ _ hR1 hW)
                  exact ⟨.int .i64 x.2.nu, by go_simp, sps rfl rfl⟩)) (by kernel_rfl) (by rfl))) ?_
              refine opsK_cons (by
               exact rel_n (rel_s HRL.out [5] (fun w1 hR1 => opOk_run rfl (.inl rfl) (fun a W hW hsp => by
                  have e10 : a.eval (.tmp 10) = .pointer (some ⟨fb, 0, none⟩) := (hsp 10 (by kernel_rfl)).get rfl
                  refine ⟨.pointer (some ⟨fb, 7, none⟩), ?_, sps rfl rfl⟩
                  unfold execOp
                  simp only [e10]
                  go_simp)) (by kernel_rfl) (by rfl))) ?_
              refine opsK_cons (by
               exact rel_n (rel_s HRL.out [5] (fun w1 hR1 => opOk_load (p := ⟨fb, 7, none⟩) rfl rfl (.inl rfl) (by kernel_rfl) (fun _ _ h => h.get rfl) (fun W hW => by
                  obtain ⟨k0, k1, k2, k3, k4, k5⟩ := HKC.out _ (HRL.out _ _ hR1 hW)
                  exact ⟨.string x.2.tx, by go_simp, sps rfl rfl⟩)) (by kernel_rfl) (by rfl))) ?_
              refine opsK_cons (by
               exact rel_n (rel_s HRL.out [5] (fun w1 hR1 => opOk_run rfl (.inl rfl) (fun a W hW hsp => by
                  have f42 : a.tmps[42]?.getD undef = .int .i64 x.1 := by rw [← Array.getD_eq_getD_getElem?]; exact (hsp 42 (by kernel_rfl)).get rfl
                  have f44 : a.tmps[44]?.getD undef = .int .i64 x.2.fr := by rw [← Array.getD_eq_getD_getElem?]; exact (hsp 44 (by kernel_rfl)).get rfl
                  have f46 : a.tmps[46]?.getD undef = .int .i64 x.2.to := by rw [← Array.getD_eq_getD_getElem?]; exact (hsp 46 (by kernel_rfl)).get rfl
                  have f48 : a.tmps[48]?.getD undef = .int .i64 x.2.nu := by rw [← Array.getD_eq_getD_getElem?]; exact (hsp 48 (by kernel_rfl)).get rfl
                  have f50 : a.tmps[50]?.getD undef = .string x.2.tx := by rw [← Array.getD_eq_getD_getElem?]; exact (hsp 50 (by kernel_rfl)).get rfl
                  refine ⟨.agg #[.int .i64 x.1, .int .i64 x.2.fr, .int .i64 x.2.to, .int .i64 x.2.nu, .string x.2.tx], ?_, sps rfl rfl⟩
                  unfold execOp
                  go_simp)) (by kernel_rfl) (by rfl))) ?_
              refine opsK_cons (by
               exact rel_n (rel_s HRL.out [5] (fun w1 hR1 => opOk_new rfl (.inl rfl) (fun a W hW hsp => by
                  have e51 : a.eval (.tmp 51) = .agg #[.int .i64 x.1, .int .i64 x.2.fr, .int .i64 x.2.to, .int .i64 x.2.nu, .string x.2.tx] := (hsp 51 (by kernel_rfl)).get rfl
                  refine ⟨_, .cells #[.int .i64 x.1, .int .i64 x.2.fr, .int .i64 x.2.to, .int .i64 x.2.nu, .string x.2.tx] 78, ?_, sps rfl ⟨W.heap.size, rfl, (HRL.out _ _ hR1 hW).size, Bk.new W _ _⟩⟩
                  unfold execOp
                  simp only [List.map_toArray, List.map_cons, List.map_nil, e51]
                  go_simp)) (by kernel_rfl) (by rfl))) ?_
              refine opsK_cons (by
               exact rel_n (rel_app rfl rfl (cons_all (.inr (.inr (.head _))) (cons_all (.inl (Sp.pure_val _)) (cons_all (.inl (Sp.pure_val _)) (cons_all (.inl (Sp.pure_val _)) (cons_all (.inl (Sp.pure_val _)) (cons_all (.inl (Sp.pure_val _)) (cons_all (.inl (Sp.pure_val _)) (cons_all (.inl (Sp.pure_val _)) (cons_all (.inl (Sp.pure_val _)) (cons_all (.inr (.inr (.tail _ (.head _)))) (cons_all (.inl (Sp.pure_val _)) (cons_all (.inl (Sp.pure_val _)) (cons_all (.inl (Sp.pure_val _)) (cons_all (.inl (Sp.pure_val _)) (cons_all (.inl (Sp.pure_val _)) (cons_all (.inl (Sp.pure_val _)) (cons_all (.inl (Sp.pure_val _)) (cons_all (.inl (Sp.pure_val _)) (cons_all (.inl (Sp.pure_val _)) (cons_all (.inl (Sp.pure_val _)) (cons_all (.inl (Sp.pure_val _)) (cons_all (.inl (Sp.pure_val _)) (cons_all (.inl (Sp.pure_val _)) (cons_all (.inl (Sp.pure_val _)) (cons_all (.inr (.inr (.tail _ (.tail _ (.head _))))) (cons_all (.inr (.inl rfl)) (cons_all (.inl (Sp.pure_val _)) (nil_all)))))))))))))))))))))))))))) (fun a W hR hsp => by
                  obtain ⟨e37, ho37⟩ := (hsp 37 (by kernel_rfl) (fun j hj => .inl (by simpa using hj))).get rfl
                  obtain ⟨b52, e52, hb52, hk52⟩ := (hsp 52 (by kernel_rfl) (fun j hj => .inl (by simpa using hj))).get rfl
                  refine wp_append_at (.tmp 37) (.tmp 52) 40 rfl Bi 78 i0 _ 5 48 Tryz.underlying40 HJ0.out HJ1.out HJ2.out HJ3.out rfl (by decide) _ _ _ e37 ho37 ⟨b52, 0, none⟩ 1 1 (encR x) e52 rfl (news5 hk52) (encR_one x) (HLN.out.1) (HLN.out.2) hR.size ?_
                  intro v' W' hown' hgr hat
                  refine ⟨v', rfl, HRA.out _ _ hR hgr, sps rfl ?_⟩
                  exact ownR_snoc hown'))) ?_
              refine opsK_cons (by
               exact rel_n (rel_s HRL.out [5, 37, 52] (fun w1 hR1 => opOk_run rfl (.inl rfl) (fun a W hW hsp => by
                  have e6 : a.eval (.tmp 6) = .pointer (some ⟨ob, 0, none⟩) := (hsp 6 (by kernel_rfl)).get rfl
                  have e34 : a.eval (.tmp 34) = .int .i64 i := (hsp 34 (by kernel_rfl)).get rfl
                  refine ⟨.pointer (some ⟨ob, i, none⟩), ?_, sps rfl rfl⟩
                  unfold execOp
                  simp only [e6, e34]
                  go_simp)) (by kernel_rfl) (by rfl))) ?_
              refine opsK_cons (by
               exact rel_l) ?_
              exact opsK_nil
            · intro oL hoL hdL vs W hR hsp
              have z53 : OwnRf Bi (vs 53) (Y.take k ++ [x]) W := (hsp 53 (by simp)).get rfl
              have z54 : vs 54 = .pointer (some ⟨ob, i, none⟩) := (hsp 54 (by simp)).get rfl
              have hkc := HKC.out W hR
              have k0 := hkc.1
              clear hkc
              have kf : W.frozen? ⟨ob, i, none⟩ = false := hR.bo.frozen i
              have HEND := Lib.hid (HST.out W (vs 53) hR z53)
              clear hR hsp
              refine wp_store_end (d := 54) (s := 53) (u := vs 53) hoL ?_ ?_ z53 (by simp) k0 kf ?_
              · simp only [putAll]
                go_simp
              · simp only [putAll]
                go_simp
              clear z54 z53 k0 kf
              rw [hdL]
              simp only [putAll]
              go_simp
              go_step
              go_wp2
              exact ⟨⟨k + 1, by omega, by go_num, vs 53, Lib.hid (by rw [HTK.out, HBI.out]; exact HEND.out.1), Lib.hid HEND.out.2.1, Lib.hid (by rw [HSS.out]; exact HEND.out.2.2)⟩, by simp [intOf]; omega⟩
          · obtain rfl : k = Y.length := by omega
            rw [List.take_length] at HO
            have HF9 : Hid (FoI w vb rb kb ob (.slice AV L.length cV) X (i + 1) (fun j => if j = i then v else V j) wr) := Lib.hid (HF8.out.step hlt HD.out HG.out (by rw [HCS.out]; exact HBO2.out) (by rw [HYE.out]; exact HO.out))
            go_wp2
            exact ⟨⟨i + 1, _, by omega, by go_num, HF9⟩, by simp [intOf]; omega⟩
    · obtain rfl : i = 5 := by omega
      have SL : ∀ j, j < 5 → ∃ A c, V j = .slice A (X.at_ j).length c := fun j hj => by
        obtain ⟨A, c, h, _⟩ := HF.out.done j hj
        exact ⟨A, c, h⟩
      obtain ⟨A0, c0, hV0⟩ := SL 0 (by omega)
      obtain ⟨n0, hn0⟩ : ∃ z, (X.at_ 0).length = z := ⟨_, rfl⟩
      rw [hn0] at hV0
      have C0 : wr.cell? ⟨ob, 0, none⟩ = some (.slice A0 n0 c0) := by rw [← hV0]; exact HF.out.bo.cell 0
      have R0 : wr.cell? ⟨rb, 0, none⟩ = some (.slice none 0 0) := HF.out.br.cell 0
      have F0 : wr.frozen? ⟨rb, 0, none⟩ = false := HF.out.br.frozen 0
      obtain ⟨A1, c1, hV1⟩ := SL 1 (by omega)
      obtain ⟨n1, hn1⟩ : ∃ z, (X.at_ 1).length = z := ⟨_, rfl⟩
      rw [hn1] at hV1
      have C1 : wr.cell? ⟨ob, 1, none⟩ = some (.slice A1 n1 c1) := by rw [← hV1]; exact HF.out.bo.cell 1
      have R1 : wr.cell? ⟨rb, 1, none⟩ = some (.slice none 0 0) := HF.out.br.cell 1
      have F1 : wr.frozen? ⟨rb, 1, none⟩ = false := HF.out.br.frozen 1
      obtain ⟨A2, c2, hV2⟩ := SL 2 (by omega)
      obtain ⟨n2, hn2⟩ : ∃ z, (X.at_ 2).length = z := ⟨_, rfl⟩
      rw [hn2] at hV2
      have C2 : wr.cell? ⟨ob, 2, none⟩ = some (.slice A2 n2 c2) := by rw [← hV2]; exact HF.out.bo.cell 2
      have R2 : wr.cell? ⟨rb, 2, none⟩ = some (.slice none 0 0) := HF.out.br.cell 2
      have F2 : wr.frozen? ⟨rb, 2, none⟩ = false := HF.out.br.frozen 2
      obtain ⟨A3, c3, hV3⟩ := SL 3 (by omega)
      obtain ⟨n3, hn3⟩ : ∃ z, (X.at_ 3).length = z := ⟨_, rfl⟩
      rw [hn3] at hV3
      have C3 : wr.cell? ⟨ob, 3, none⟩ = some (.slice A3 n3 c3) := by rw [← hV3]; exact HF.out.bo.cell 3
      have R3 : wr.cell? ⟨rb, 3, none⟩ = some (.slice none 0 0) := HF.out.br.cell 3
      have F3 : wr.frozen? ⟨rb, 3, none⟩ = false := HF.out.br.frozen 3
      obtain ⟨A4, c4, hV4⟩ := SL 4 (by omega)
      obtain ⟨n4, hn4⟩ : ∃ z, (X.at_ 4).length = z := ⟨_, rfl⟩
      rw [hn4] at hV4
      have C4 : wr.cell? ⟨ob, 4, none⟩ = some (.slice A4 n4 c4) := by rw [← hV4]; exact HF.out.bo.cell 4
      have R4 : wr.cell? ⟨rb, 4, none⟩ = some (.slice none 0 0) := HF.out.br.cell 4
      have F4 : wr.frozen? ⟨rb, 4, none⟩ = false := HF.out.br.frozen 4
      have HFIN := Lib.hid (HF.out.fin HD.out.2.1)
      have HVV := Lib.hid (And.intro hV0 (And.intro hV1 (And.intro hV2 (And.intro hV3 hV4))))
      rw [hV0, hV1, hV2, hV3, hV4] at HFIN
      have z := HFIN.out.1
      have z0 := z.cell 0
      have z1 := z.cell 1
      have z2 := z.cell 2
      have z3 := z.cell 3
      have z4 := z.cell 4
      have HZ := Lib.hid (And.intro z0 (And.intro z1 (And.intro z2 (And.intro z3 z4))))
      clear z z0 z1 z2 z3 z4 SL hV0 hV1 hV2 hV3 hV4 hn0 hn1 hn2 hn3 hn4 HF
      go_wp2
      obtain ⟨z0, z1, z2, z3, z4⟩ := HZ.out
      refine bodyPost_ret (v := .agg #[.slice A0 n0 c0, .slice A1 n1 c1, .slice A2 n2 c2, .slice A3 n3 c3, .slice A4 n4 c4]) (by simp [results, Tryz.results21, go_sem, z0, z1, z2, z3, z4]) rfl ⟨V, by obtain ⟨a0, a1, a2, a3, a4⟩ := HVV.out; rw [a0, a1, a2, a3, a4], HFIN.out.2.1, HFIN.out.2.2⟩
end Go.Proofs.YtlgoaohklggcdaaGreatDoor
