import Derived.Test.YtdkbbngedjiheaaGreatDoorRgs
import Derived.WalkKit
/- One operation of such a region: move, assign, pick, load, call. -/
namespace Go.Proofs.YtdkbbngedjiheaaGreatDoor
open Go.RowKit

section
variable {P : Program} {ops : Array Oper} {Q : Exit → Act → World → Prop} {SP : Nat → Value → World → Prop} {a0 : Act} {w0 : World} {o : Oper} {d s u f : Nat}
/-- Its guard is met. -/
def GOk (ops : Array Oper) (SP : Nat → Value → World → Prop) (o : Oper) : Prop :=
  o.guard = none ∨ ∃ g e, o.guard = some (g, true) ∧ (ops[g]?).bind (·.dst) = some e ∧ waitsB .any ops o e = true ∧ ∀ v w, SP e v w → v = .bool true
theorem wanted_of {a : Act} {w : World} (hg : GOk ops SP o) (hsp : ∀ t, waitsB .any ops o t = true → SP t (a.tmps.getD t undef) w) : Region.wanted o (yielded ops a.tmps) = true := by
  rcases hg with h | ⟨g, e, h1, h2, h3, h4⟩
  · simp [Region.wanted, h]
  · have h5 := h4 _ _ (hsp e h3)
    have h6 : a.tmps[e]? = some (.bool true) := by
      rw [Array.getD_eq_getD_getElem?] at h5
      cases h7 : a.tmps[e]? with
      | none => rw [h7] at h5; cases h5
      | some x => rw [h7] at h5; simpa using h5
    simp [Region.wanted, h1, yielded, h2, h6]
theorem opOk_move (hop : o.op = .move (.tmp s)) (hd : o.dst = some d) (hg : GOk ops SP o) (hs : waitsB .any ops o s = true) (h : ∀ v w, SP s v w → SP d v w) : OpOk P .any ops Q SP a0 w0 o :=
  fun a w _ _ _ hsp => ⟨wanted_of hg hsp, by
    unfold Oper.wp execOp
    simp only [hop, Sem.run_pure, Oper.upon]
    exact ⟨_, rfl, Below.refl _ _, fun e he => by rw [hd] at he; injection he with he; subst he; exact h _ _ (hsp s hs)⟩⟩
theorem opOk_assign (hop : o.op = .assign (.tmp s)) (hd : o.dst = some d) (hg : GOk ops SP o) (hs : waitsB .any ops o s = true) (h : ∀ v w, SP s v w → SP d v w) : OpOk P .any ops Q SP a0 w0 o :=
  fun a w _ _ _ hsp => ⟨wanted_of hg hsp, by
    unfold Oper.wp execOp
    simp only [hop, Sem.run_pure, Oper.upon]
    exact ⟨_, rfl, Below.refl _ _, fun e he => by rw [hd] at he; injection he with he; subst he; exact h _ _ (hsp s hs)⟩⟩
theorem opOk_pick {k : Value} (hop : o.op = .pick (.tmp s) (.tmp u) (.const k)) (hd : o.dst = some d) (hg : GOk ops SP o) (hs : waitsB .any ops o s = true) (hu : waitsB .any ops o u = true) (h1 : ∀ v w, SP s v w → v = .bool true) (h : ∀ v w, SP u v w → SP d v w) : OpOk P .any ops Q SP a0 w0 o :=
  fun a w _ _ _ hsp => ⟨wanted_of hg hsp, by
    have h2 := h1 _ _ (hsp s hs)
    have h3 : a.eval (.tmp s) = .bool true := h2
    unfold Oper.wp execOp
    simp [hop, h3, Oper.upon]
    exact ⟨_, rfl, Below.refl _ _, fun e he => by rw [hd] at he; injection he with he; subst he; exact h _ _ (hsp u hu)⟩⟩
theorem opOk_load {ty : TypeId} {p : Addr} (hop : o.op = .load ty (.tmp s)) (hd : o.dst = some d) (hg : GOk ops SP o) (hs : waitsB .any ops o s = true) (h1 : ∀ v w, SP s v w → v = .pointer (some p))
    (h : ∀ w, Below w0.heap.size w0 w → ∃ v, (Instr.loadAt ty (.pointer (some p))).run P w = .ok v w ∧ SP d v w) : OpOk P .any ops Q SP a0 w0 o :=
  fun a w hb _ _ hsp => ⟨wanted_of hg hsp, by
    have h3 : a.eval (.tmp s) = .pointer (some p) := h1 _ _ (hsp s hs)
    obtain ⟨v, hv, hsv⟩ := h w hb
    unfold Oper.wp execOp
    simp only [hop, h3, Sem.run_bind, hv, Result.andThen_ok, Sem.run_pure, Oper.upon]
    exact ⟨_, rfl, Below.refl _ _, fun e he => by rw [hd] at he; injection he with he; subst he; exact hsv⟩⟩
theorem opOk_call0 {ats : Array TypeId} (hop : o.op = .call { callee := .value (.func f), args := #[], argTypes := ats }) (hd : o.dst = some d) (hg : GOk ops SP o) (hent : ∀ args w, (callFunc f args).run P w = .ok (.enter f args) w)
    (h : ∀ w, Below w0.heap.size w0 w → Calls P f #[] w fun e w' => ∃ v, e = .returned v ∧ Below w.heap.size w w' ∧ SP d v w') : OpOk P .any ops Q SP a0 w0 o :=
  fun a w hb _ _ hsp => ⟨wanted_of hg hsp, by
    have e1 : execOp a.eval o = callFunc f #[] := by
      obtain ⟨dst, op, ty, pos, after, guard⟩ := o
      simp only at hop
      subst hop
      refine Eq.trans (show _ = callFunc f (#[] ++ (#[] : Array Operand).map a.eval ++ #[]) from rfl) ?_
      simp
    unfold Oper.wp
    rw [e1, hent]
    refine (h w hb).mono ?_
    rintro e w' ⟨v, rfl, hb', hsv⟩
    exact ⟨_, rfl, hb', fun e he => by rw [hd] at he; injection he with he; subst he; exact hsv⟩⟩
theorem opOk_call2 {ats : Array TypeId} (hop : o.op = .call { callee := .value (.func f), args := #[.tmp s, .tmp u], argTypes := ats }) (hd : o.dst = some d) (hg : GOk ops SP o) (hs : waitsB .any ops o s = true) (hu : waitsB .any ops o u = true) (hent : ∀ args w, (callFunc f args).run P w = .ok (.enter f args) w)
    (h : ∀ v1 v2 w, Below w0.heap.size w0 w → SP s v1 w → SP u v2 w → Calls P f #[v1, v2] w fun e w' => ∃ v, e = .returned v ∧ Below w.heap.size w w' ∧ SP d v w') : OpOk P .any ops Q SP a0 w0 o :=
  fun a w hb _ _ hsp => ⟨wanted_of hg hsp, by
    have e1 : execOp a.eval o = callFunc f #[a.tmps.getD s undef, a.tmps.getD u undef] := by
      obtain ⟨dst, op, ty, pos, after, guard⟩ := o
      simp only at hop
      subst hop
      refine Eq.trans (show _ = callFunc f (#[] ++ (#[Operand.tmp s, Operand.tmp u] : Array Operand).map a.eval ++ #[]) from rfl) ?_
      simp [Act.eval]
    unfold Oper.wp
    rw [e1, hent]
    refine (h _ _ w hb (hsp s hs) (hsp u hu)).mono ?_
    rintro e w' ⟨v, rfl, hb', hsv⟩
    exact ⟨_, rfl, hb', fun e he => by rw [hd] at he; injection he with he; subst he; exact hsv⟩⟩
end
end Go.Proofs.YtdkbbngedjiheaaGreatDoor
