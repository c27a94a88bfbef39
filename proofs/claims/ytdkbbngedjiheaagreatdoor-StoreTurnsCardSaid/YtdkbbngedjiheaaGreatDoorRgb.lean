import Derived.Test.YtdkbbngedjiheaaGreatDoorRga
import Derived.Test.YtdkbbngedjiheaaGreatDoorRgo
/- Operations of such a region: values of a table, loads, calls, blocks made and stored into. -/
namespace Go.Proofs.YtdkbbngedjiheaaGreatDoor
open Go.RowKit

/-- What a slot holds, by a table. -/
abbrev SPl (tbl : List (Nat × Value)) : Nat → Value → World → Prop := fun t v _ => ∀ x, tbl.lookup t = some x → v = x
theorem lookup_mem {t : Nat} {x : Value} : ∀ {tbl : List (Nat × Value)}, tbl.lookup t = some x → (t, x) ∈ tbl
  | [], h => by cases h
  | (s, y) :: r, h => by
    rw [List.lookup_cons] at h
    by_cases hs : t = s
    · subst hs
      simp at h
      subst h
      exact List.mem_cons_self ..
    · have : (t == s) = false := beq_eq_false_iff_ne.2 hs
      rw [this] at h
      exact List.mem_cons_of_mem _ (lookup_mem h)
theorem opsK_cons {o : Oper} {l : List Oper} {n : Nat} {q : Nat → Oper → Prop} (h : q n o) (k : ∀ (i : Nat) (o : Oper), l[i]? = some o → q (n + 1 + i) o) : ∀ (i : Nat) (o' : Oper), (o :: l)[i]? = some o' → q (n + i) o' := fun i o' ho => by
  cases i with
  | zero =>
    have e : o = o' := by simpa using ho
    subst e
    exact h
  | succ i =>
    have := k i o' (by simpa using ho)
    rwa [show n + 1 + i = n + (i + 1) by omega] at this
theorem opsK_all {l : List Oper} {q : Nat → Oper → Prop} (h : ∀ (i : Nat) (o : Oper), l[i]? = some o → q (0 + i) o) : ∀ (i : Nat) (o : Oper), l.toArray[i]? = some o → q i o := fun i o ho => by
  have := h i o (by simpa using ho)
  rwa [Nat.zero_add] at this
theorem opsK_nil {n : Nat} {q : Nat → Oper → Prop} : ∀ (i : Nat) (o : Oper), ([] : List Oper)[i]? = some o → q (n + i) o := fun i o ho => by simp at ho
section
variable {P : Program} {ops : Array Oper} {Q : Exit → Act → World → Prop} {SP : Nat → Value → World → Prop} {ms : List Mk} {a0 : Act} {w0 : World} {o : Oper} {i d s u f : Nat}
theorem kind_n (h : OpOk P .any ops Q SP a0 w0 o) (hn : ∀ p ∈ ms, p.ia ≠ i ∧ p.is ≠ i ∧ o.dst ≠ some p.d) : KindOk P ops Q SP ms a0 w0 i o := .inl ⟨h, hn⟩
/-- An operation that yields a value and leaves the world as it is. -/
theorem opOk_run (hd : o.dst = some d) (hg : GOk ops SP o) (h : ∀ (a : Act) (w : World), Below w0.heap.size w0 w → (∀ t, waitsB .any ops o t = true → SP t (a.tmps.getD t undef) w) → ∃ v, (execOp a.eval o).run P w = .ok (.value v) w ∧ SP d v w) : OpOk P .any ops Q SP a0 w0 o :=
  fun a w hb _ _ hsp => ⟨wanted_of hg hsp, by
    obtain ⟨v, hr, hs⟩ := h a w hb hsp
    unfold Oper.wp
    rw [hr]
    exact ⟨v, rfl, Below.refl _ _, fun e he => by rw [hd] at he; injection he with he; subst he; exact hs⟩⟩
theorem opOk_call1 {ats : Array TypeId} (hop : o.op = .call { callee := .value (.func f), args := #[.tmp s], argTypes := ats }) (hd : o.dst = some d) (hg : GOk ops SP o) (hs : waitsB .any ops o s = true) (hent : ∀ args w, (callFunc f args).run P w = .ok (.enter f args) w)
    (h : ∀ v1 w, Below w0.heap.size w0 w → SP s v1 w → Calls P f #[v1] w fun e w' => ∃ v, e = .returned v ∧ Below w.heap.size w w' ∧ SP d v w') : OpOk P .any ops Q SP a0 w0 o :=
  fun a w hb _ _ hsp => ⟨wanted_of hg hsp, by
    have e1 : execOp a.eval o = callFunc f #[a.tmps.getD s undef] := by
      obtain ⟨dst, op, ty, pos, after, guard⟩ := o
      simp only at hop
      subst hop
      refine Eq.trans (show _ = callFunc f (#[] ++ (#[Operand.tmp s] : Array Operand).map a.eval ++ #[]) from rfl) ?_
      simp [Act.eval]
    unfold Oper.wp
    rw [e1, hent]
    refine (h _ w hb (hsp s hs)).mono ?_
    rintro e w' ⟨v, rfl, hb', hsv⟩
    exact ⟨_, rfl, hb', fun e he => by rw [hd] at he; injection he with he; subst he; exact hsv⟩⟩
theorem kind_alloc (p : Mk) (z : Value) (hp : p ∈ ms) (hi : p.ia = i) (hd : o.dst = some p.d) (hg : o.guard = none) (h1 : ∀ q ∈ ms, q.ia = i → q.d = p.d) (h2 : ∀ q ∈ ms, q.is ≠ i ∧ (q.d = p.d → q = p))
    (hrun : ∀ (a : Act) (w : World), (execOp a.eval o).run P w = .ok (.value (.pointer (some ⟨w.heap.size, 0, none⟩))) (w.alloc (.cells #[z] p.T))) : KindOk P ops Q SP ms a0 w0 i o :=
  .inr (.inl ⟨p, hp, z, hi, hd, hg, h1, h2, hrun⟩)
theorem kind_store (p : Mk) (hp : p ∈ ms) (hi : p.is = i) (hd : o.dst = none) (hg : o.guard = none) (hw1 : waitsB .any ops o p.d = true) (hw2 : waitsB .any ops o p.s = true) (hw3 : (o.after.any fun e => Region.binds .any e && e.on == p.ia) = true)
    (h1 : ∀ q ∈ ms, q.ia ≠ i ∧ (q.is = i → q = p) ∧ (q.d = p.d → q = p)) (h2 : ∀ v w, SP p.s v w → ∃ A l c, v = .agg #[.slice A l c])
    (hrun : ∀ (a : Act) (w : World) (b : Nat) (y : Value) (A : Option Addr) (l c : Nat), a.eval (.tmp p.d) = .pointer (some ⟨b, 0, none⟩) → a.eval (.tmp p.s) = .agg #[.slice A l c] → Bk b p.T #[y] w → (execOp a.eval o).run P w = .ok .skip (w.setCell ⟨b, 0, none⟩ (.slice A l c))) : KindOk P ops Q SP ms a0 w0 i o :=
  .inr (.inr ⟨p, hp, hi, hd, hg, hw1, hw2, hw3, h1, h2, hrun⟩)
end
/-- Stores of a Store, a View; blocks for them. -/
theorem run_putS {d s b : Nat} {o : Oper} {a : Act} {w : World} {y : Value} {A : Option Addr} {l c : Nat} (hop : o.op = .store 30 (.tmp d) (.tmp s)) (hd : a.eval (.tmp d) = .pointer (some ⟨b, 0, none⟩)) (hs : a.eval (.tmp s) = .agg #[.slice A l c]) (hk : Bk b 30 #[y] w) :
    (execOp a.eval o).run Tryz.prog w = .ok .skip (w.setCell ⟨b, 0, none⟩ (.slice A l c)) := by
  have c0 : w.cell? ⟨b, 0, none⟩ = some y := hk.cell 0
  have f0 : w.frozen? ⟨b, 0, none⟩ = false := hk.frozen 0
  unfold execOp
  simp only [hop, hd, hs]
  go_simp
theorem run_putV {d s b : Nat} {o : Oper} {a : Act} {w : World} {y : Value} {A : Option Addr} {l c : Nat} (hop : o.op = .store 35 (.tmp d) (.tmp s)) (hd : a.eval (.tmp d) = .pointer (some ⟨b, 0, none⟩)) (hs : a.eval (.tmp s) = .agg #[.slice A l c]) (hk : Bk b 35 #[y] w) :
    (execOp a.eval o).run Tryz.prog w = .ok .skip (w.setCell ⟨b, 0, none⟩ (.slice A l c)) := by
  have c0 : w.cell? ⟨b, 0, none⟩ = some y := hk.cell 0
  have f0 : w.frozen? ⟨b, 0, none⟩ = false := hk.frozen 0
  unfold execOp
  simp only [hop, hd, hs]
  go_simp
theorem run_newS {o : Oper} {a : Act} {w : World} (hop : o.op = .alloc 30) : (execOp a.eval o).run Tryz.prog w = .ok (.value (.pointer (some ⟨w.heap.size, 0, none⟩))) (w.alloc (.cells #[.slice none 0 0] 30)) := by
  unfold execOp
  simp only [hop]
  go_simp
theorem run_newV {o : Oper} {a : Act} {w : World} (hop : o.op = .alloc 35) : (execOp a.eval o).run Tryz.prog w = .ok (.value (.pointer (some ⟨w.heap.size, 0, none⟩))) (w.alloc (.cells #[.slice none 0 0] 35)) := by
  unfold execOp
  simp only [hop]
  go_simp
end Go.Proofs.YtdkbbngedjiheaaGreatDoor
