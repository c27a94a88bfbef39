import Derived.Test.YtlgoaohklggcdaaGreatDoorRgx
/- Operations of a drawn region that reads a slot ahead of the one that assigns it. -/
namespace Go.Proofs.YtlgoaohklggcdaaGreatDoor
open Go.RowKit Go.Sort

section
variable {P : Program} {ops : Array Oper} {Q : Exit → Act → World → Prop} {SP : Nat → Value → World → Prop} {ks : List (Nat × Nat)} {ms : List Mk} {a0 : Act} {w0 : World} {o : Oper} {i d : Nat} {tbl : List (Nat × Sp)}
theorem kz_m (h : OpOkM P ops Q SP ks ms a0 w0 i o) (hn : ∀ p ∈ ms, p.ia ≠ i ∧ p.is ≠ i ∧ o.dst ≠ some p.d) : KindX P ops Q SP ks ms a0 w0 i o := .inl ⟨h, hn⟩
theorem kz_n (h : OpOk P .any ops Q (SPS tbl) a0 w0 o) (hk : ks.all (fun p => !(waitsB .any ops o p.1) || p.2 == i || edgeB ops p.2 i) = true) (hn : ∀ p ∈ ms, p.ia ≠ i ∧ p.is ≠ i ∧ o.dst ≠ some p.d) : KindX P ops Q (SPS tbl) ks ms a0 w0 i o := .inl ⟨opOkM_n (SPS.st tbl) h hk, hn⟩
theorem opOkM_runZ (hd : o.dst = some d) (hg : o.guard = none) (hks : ks.all (fun p => !(waitsB .any ops o p.1) || p.2 == i || edgeB ops p.2 i) = true)
    (h : ∀ (a : Act) (w : World), Below w0.heap.size w0 w → (∀ t, lateB ops i t = true → a.tmps.getD t undef = a0.tmps.getD t undef) → (∀ t, waitsB .any ops o t = true → SPS tbl t (a.tmps.getD t undef) w) → ∃ v, (execOp a.eval o).run P w = .ok (.value v) w ∧ SPS tbl d v w) : OpOkM P ops Q (SPS tbl) ks ms a0 w0 i o := by
  intro a w hbw _ _ hini hsp
  refine ⟨by simp [Region.wanted, hg], ?_⟩
  obtain ⟨v, hr, hv⟩ := h a w hbw hini fun t ht => hsp t ht fun j hj => by
    rw [List.all_eq_true] at hks
    have := hks (t, j) hj
    simp only [ht, Bool.not_true, Bool.false_or, Bool.or_eq_true, beq_iff_eq] at this
    exact this
  unfold Oper.wp
  rw [hr]
  exact ⟨v, rfl, hbw, Nat.le_refl _, fun _ _ _ _ h => h, fun _ _ _ _ _ h => h, fun e he => by rw [hd] at he; injection he with he; subst he; exact hv⟩
end
end Go.Proofs.YtlgoaohklggcdaaGreatDoor
