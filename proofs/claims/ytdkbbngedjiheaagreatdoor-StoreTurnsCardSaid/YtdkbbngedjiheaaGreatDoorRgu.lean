import Derived.Test.YtdkbbngedjiheaaGreatDoorRgt
/- One operation of such a region: a value; behind a guard; a call. -/
namespace Go.Proofs.YtdkbbngedjiheaaGreatDoor
open Go.RowKit

section
variable {P : Program} {ops : Array Oper} {Q : Exit → Act → World → Prop} {SP : Nat → Value → World → Prop} {kl : Nat → Option Nat} {a0 : Act} {w0 : World} {o : Oper} {i d s f : Nat}
/-- What an operation yields, by its run. -/
def Yields (P : Program) (ops : Array Oper) (SP : Nat → Value → World → Prop) (kl : Nat → Option Nat) (w0 : World) (i : Nat) (o : Oper) (d : Nat) : Prop :=
  ∀ (a : Act) (w : World), Below w0.heap.size w0 w → (∀ t, waits2 .any ops o t = true → kl t = none ∨ kl t = some i → SP t (a.tmps.getD t undef) w) → ∃ v w', (execOp a.eval o).run P w = .ok (.value v) w' ∧ Below w0.heap.size w0 w' ∧ (∀ t, o.dst ≠ some t → (∀ j, kl t = some j → j ≠ i ∧ (o.after.any fun e => Region.binds .any e && e.on == j) = false) → SP t (a.tmps.getD t undef) w → SP t (a.tmps.getD t undef) w') ∧ SP d v w'
theorem wp_yields {a : Act} {w : World} (hd : o.dst = some d) (h : Yields P ops SP kl w0 i o d) (hb : Below w0.heap.size w0 w) (hsp : ∀ t, waits2 .any ops o t = true → kl t = none ∨ kl t = some i → SP t (a.tmps.getD t undef) w) :
    o.wp P a w (fun a' w' => ∃ v, a' = a.put o.dst v ∧ Below w0.heap.size w0 w' ∧ (∀ t, o.dst ≠ some t → (∀ j, kl t = some j → j ≠ i ∧ (o.after.any fun e => Region.binds .any e && e.on == j) = false) → SP t (a.tmps.getD t undef) w → SP t (a.tmps.getD t undef) w') ∧ ∀ d, o.dst = some d → SP d v w') Q := by
  obtain ⟨v, w', hr, hb', hk, hs⟩ := h a w hb hsp
  unfold Oper.wp
  rw [hr]
  exact ⟨v, rfl, hb', hk, fun e he => by rw [hd] at he; injection he with he; subst he; exact hs⟩
theorem opOk2_val (hd : o.dst = some d) (hg : o.guard = none) (h : Yields P ops SP kl w0 i o d) : OpOk2 P .any ops Q SP kl a0 w0 i o :=
  fun _ _ hb _ _ hsp => .inl ⟨by simp [Region.wanted, hg], wp_yields hd h hb hsp⟩
/-- Behind a guard, which is met just if K. -/
theorem opOk2_if {g e : Nat} {b : Bool} {K : Prop} (hd : o.dst = some d) (hgd : o.guard = some (g, b)) (hbind : (ops[g]?).bind (·.dst) = some e) (hwt : waits2 .any ops o e = true) (hke : kl e = none)
    (h1 : ∀ v w, SP e v w → K → v = .bool b) (h2 : ∀ v w, SP e v w → ¬ K → v ≠ .bool b) (hrun : K → Yields P ops SP kl w0 i o d) (hskip : ¬ K → ∀ w, SP d undef w) (hsz : e < a0.tmps.size) : OpOk2 P .any ops Q SP kl a0 w0 i o := by
  intro a w hb hs _ hsp
  have h3 := hsp e hwt (.inl hke)
  have h4 : a.tmps[e]? = some (a.tmps.getD e undef) := by
    rw [Array.getD_eq_getD_getElem?, Array.getElem?_eq_getElem (by omega)]
    rfl
  by_cases hk : K
  · have h5 := h1 _ _ h3 hk
    rw [h5] at h4
    exact .inl ⟨by simp [Region.wanted, hgd, yielded, hbind, h4], wp_yields hd (hrun hk) hb hsp⟩
  · have h5 := h2 _ _ h3 hk
    refine .inr ⟨?_, fun e' he => by rw [hd] at he; injection he with he; subst he; exact hskip hk w⟩
    generalize a.tmps.getD e undef = u at h4 h5
    simp only [Region.wanted, hgd, yielded, hbind, Option.bind_some, h4]
    cases u <;> simp_all
theorem opOk2_call1 {ats : Array TypeId} (hop : o.op = .call { callee := .value (.func f), args := #[.tmp s], argTypes := ats }) (hd : o.dst = some d) (hg : o.guard = none) (hst : ∀ t v w w', SP t v w → Below w.heap.size w w' → SP t v w') (hs : waits2 .any ops o s = true) (hks : kl s = none ∨ kl s = some i) (hent : ∀ args w, (callFunc f args).run P w = .ok (.enter f args) w)
    (h : ∀ v1 w, Below w0.heap.size w0 w → SP s v1 w → Calls P f #[v1] w fun e w' => ∃ v, e = .returned v ∧ Below w.heap.size w w' ∧ SP d v w') : OpOk2 P .any ops Q SP kl a0 w0 i o :=
  fun a w hb _ _ hsp => .inl ⟨by simp [Region.wanted, hg], by
    have e1 : execOp a.eval o = callFunc f #[a.tmps.getD s undef] := by
      obtain ⟨dst, op, ty, pos, after, guard⟩ := o
      simp only at hop
      subst hop
      refine Eq.trans (show _ = callFunc f (#[] ++ (#[Operand.tmp s] : Array Operand).map a.eval ++ #[]) from rfl) ?_
      simp [Act.eval]
    unfold Oper.wp
    rw [e1, hent]
    refine (h _ w hb (hsp s hs hks)).mono ?_
    rintro e w' ⟨v, rfl, hb', hsv⟩
    exact ⟨_, rfl, bTrans hb hb', fun t _ _ h => hst t _ _ _ h hb', fun e he => by rw [hd] at he; injection he with he; subst he; exact hsv⟩⟩
variable {u : Nat}
theorem y_same {v : Value} {a : Act} {w : World} (hr : (execOp a.eval o).run P w = .ok (.value v) w) (hb : Below w0.heap.size w0 w) (hs : SP d v w) :
    ∃ v w', (execOp a.eval o).run P w = .ok (.value v) w' ∧ Below w0.heap.size w0 w' ∧ (∀ t, o.dst ≠ some t → (∀ j, kl t = some j → j ≠ i ∧ (o.after.any fun e => Region.binds .any e && e.on == j) = false) → SP t (a.tmps.getD t undef) w → SP t (a.tmps.getD t undef) w') ∧ SP d v w' :=
  ⟨v, w, hr, hb, fun _ _ _ h => h, hs⟩
theorem y_new {v : Value} {a : Act} {w w' : World} (hst : ∀ t v w w', SP t v w → Below w.heap.size w w' → SP t v w') (hr : (execOp a.eval o).run P w = .ok (.value v) w') (hb : Below w0.heap.size w0 w) (hw : Below w.heap.size w w') (hs : SP d v w') :
    ∃ v w', (execOp a.eval o).run P w = .ok (.value v) w' ∧ Below w0.heap.size w0 w' ∧ (∀ t, o.dst ≠ some t → (∀ j, kl t = some j → j ≠ i ∧ (o.after.any fun e => Region.binds .any e && e.on == j) = false) → SP t (a.tmps.getD t undef) w → SP t (a.tmps.getD t undef) w') ∧ SP d v w' :=
  ⟨v, w', hr, bTrans hb hw, fun _ _ _ h => hst _ _ _ _ h hw, hs⟩
theorem y_move (hop : o.op = .move (.tmp s)) (hs : waits2 .any ops o s = true) (hk : kl s = none ∨ kl s = some i) (h : ∀ v w, SP s v w → SP d v w) : Yields P ops SP kl w0 i o d :=
  fun _ _ hb hsp => y_same (by unfold execOp; simp only [hop, Sem.run_pure]; rfl) hb (h _ _ (hsp s hs hk))
theorem y_not {c : Bool} {ty : TypeId} (hop : o.op = .unOp .not ty (.tmp s)) (hs : waits2 .any ops o s = true) (hk : kl s = none ∨ kl s = some i) (h1 : ∀ v w, SP s v w → v = .bool c) (h2 : ∀ w, SP d (.bool !c) w) : Yields P ops SP kl w0 i o d :=
  fun a w hb hsp => y_same (v := .bool !c) (by
    have e : a.eval (.tmp s) = .bool c := h1 _ _ (hsp s hs hk)
    unfold execOp
    simp [hop, e, Op.unary]) hb (h2 w)
theorem y_pick {c : Bool} {k : Value} (hop : o.op = .pick (.tmp s) (.const k) (.tmp u)) (hs : waits2 .any ops o s = true) (hk : kl s = none ∨ kl s = some i) (hu : waits2 .any ops o u = true) (hk2 : kl u = none ∨ kl u = some i) (h1 : ∀ v w, SP s v w → v = .bool c)
    (h2 : c = true → ∀ w, SP d k w) (h3 : c = false → ∀ v w, SP u v w → SP d v w) : Yields P ops SP kl w0 i o d := by
  intro a w hb hsp
  have e : a.eval (.tmp s) = .bool c := h1 _ _ (hsp s hs hk)
  have e2 : a.eval (.const k) = k := rfl
  have e3 : a.eval (.tmp u) = a.tmps.getD u undef := rfl
  cases c with
  | true => exact y_same (v := k) (by unfold execOp; simp only [hop, e, e2, e3, asBool, Sem.run_bind, Sem.run_pure, Result.andThen_ok]; rfl) hb (h2 rfl w)
  | false => exact y_same (v := a.tmps.getD u undef) (by unfold execOp; simp only [hop, e, e2, e3, asBool, Sem.run_bind, Sem.run_pure, Result.andThen_ok]; rfl) hb (h3 rfl _ _ (hsp u hu hk2))
theorem y_pick2 {c : Bool} {k : Value} (hop : o.op = .pick (.tmp s) (.tmp u) (.const k)) (hs : waits2 .any ops o s = true) (hk : kl s = none ∨ kl s = some i) (hu : waits2 .any ops o u = true) (hk2 : kl u = none ∨ kl u = some i) (h1 : ∀ v w, SP s v w → v = .bool c)
    (h2 : c = false → ∀ w, SP d k w) (h3 : c = true → ∀ v w, SP u v w → SP d v w) : Yields P ops SP kl w0 i o d := by
  intro a w hb hsp
  have e : a.eval (.tmp s) = .bool c := h1 _ _ (hsp s hs hk)
  have e2 : a.eval (.const k) = k := rfl
  have e3 : a.eval (.tmp u) = a.tmps.getD u undef := rfl
  cases c with
  | false => exact y_same (v := k) (by unfold execOp; simp only [hop, e, e2, e3, asBool, Sem.run_bind, Sem.run_pure, Result.andThen_ok]; rfl) hb (h2 rfl w)
  | true => exact y_same (v := a.tmps.getD u undef) (by unfold execOp; simp only [hop, e, e2, e3, asBool, Sem.run_bind, Sem.run_pure, Result.andThen_ok]; rfl) hb (h3 rfl _ _ (hsp u hu hk2))
theorem y_field {p p' : Value} {st : TypeId} {fi : Nat} (hop : o.op = .fieldAddr st (.tmp s) fi) (hs : waits2 .any ops o s = true) (hk : kl s = none ∨ kl s = some i) (h1 : ∀ v w, SP s v w → v = p) (hrun : ∀ w, (Instr.fieldAt st p fi).run P w = .ok p' w) (h2 : ∀ w, SP d p' w) : Yields P ops SP kl w0 i o d :=
  fun a w hb hsp => y_same (v := p') (by
    have e : a.eval (.tmp s) = p := h1 _ _ (hsp s hs hk)
    unfold execOp
    simp only [hop, e, Sem.run_bind, hrun, Result.andThen_ok, Sem.run_pure]) hb (h2 w)
theorem y_load {p : Value} {ty : TypeId} (hop : o.op = .load ty (.tmp s)) (hs : waits2 .any ops o s = true) (hk : kl s = none ∨ kl s = some i) (h1 : ∀ v w, SP s v w → v = p) (h2 : ∀ w, Below w0.heap.size w0 w → ∃ v, (Instr.loadAt ty p).run P w = .ok v w ∧ SP d v w) : Yields P ops SP kl w0 i o d :=
  fun a w hb hsp => by
    have e : a.eval (.tmp s) = p := h1 _ _ (hsp s hs hk)
    obtain ⟨v, hr, hsv⟩ := h2 w hb
    exact y_same (v := v) (by unfold execOp; simp only [hop, e, Sem.run_bind, hr, Result.andThen_ok, Sem.run_pure]) hb hsv
theorem y_binc {op : BinOp} {ty r : TypeId} {k x y : Value} (hop : o.op = .binOp op ty (.tmp s) (.const k) r) (hs : waits2 .any ops o s = true) (hk : kl s = none ∨ kl s = some i) (h1 : ∀ v w, SP s v w → v = x)
    (hrun : ∀ w, (do eqGuard op ty (.tmp s) (.const k) x k; binOp op ty x k : Sem Value).run P w = .ok y w) (h2 : ∀ w, SP d y w) : Yields P ops SP kl w0 i o d :=
  fun a w hb hsp => y_same (v := y) (by
    have e : a.eval (.tmp s) = x := h1 _ _ (hsp s hs hk)
    have e2 : a.eval (.const k) = k := rfl
    unfold execOp
    simp only [hop, e, e2, Sem.run_bind] at hrun ⊢
    rw [hrun]
    simp only [Result.andThen_ok, Sem.run_pure]) hb (h2 w)
theorem y_bin2 {op : BinOp} {ty r : TypeId} {x z y : Value} (hop : o.op = .binOp op ty (.tmp s) (.tmp u) r) (hs : waits2 .any ops o s = true) (hk : kl s = none ∨ kl s = some i) (hu : waits2 .any ops o u = true) (hk2 : kl u = none ∨ kl u = some i) (h1 : ∀ v w, SP s v w → v = x) (h3 : ∀ v w, SP u v w → v = z)
    (hrun : ∀ w, (do eqGuard op ty (.tmp s) (.tmp u) x z; binOp op ty x z : Sem Value).run P w = .ok y w) (h2 : ∀ w, SP d y w) : Yields P ops SP kl w0 i o d :=
  fun a w hb hsp => y_same (v := y) (by
    have e : a.eval (.tmp s) = x := h1 _ _ (hsp s hs hk)
    have e2 : a.eval (.tmp u) = z := h3 _ _ (hsp u hu hk2)
    unfold execOp
    simp only [hop, e, e2, Sem.run_bind] at hrun ⊢
    rw [hrun]
    simp only [Result.andThen_ok, Sem.run_pure]) hb (h2 w)
end
end Go.Proofs.YtdkbbngedjiheaaGreatDoor
