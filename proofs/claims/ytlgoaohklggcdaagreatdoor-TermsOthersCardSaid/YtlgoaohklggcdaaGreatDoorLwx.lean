import Derived.Test.YtlgoaohklggcdaaGreatDoorRgy
/- Facts that a drawn region puts together: what its slots hold, and what stays. -/
namespace Go.Proofs.YtlgoaohklggcdaaGreatDoor
open Go.RowKit Go.Sort

section
variable {P : Program} {ops : Array Oper} {Q : Exit → Act → World → Prop} {SP : Nat → Value → World → Prop} {ks : List (Nat × Nat)} {ms : List Mk} {a0 : Act} {w0 : World} {o : Oper} {i : Nat}
theorem kx_m (h : OpOkM P ops Q SP ks ms a0 w0 i o) (hn : ∀ p ∈ ms, p.ia ≠ i ∧ p.is ≠ i ∧ o.dst ≠ some p.d) : KindX P ops Q SP ks ms a0 w0 i o := .inl ⟨h, hn⟩
theorem kx_n {tbl : List (Nat × Sp)} (h : OpOk P .any ops Q (SPS tbl) a0 w0 o) (hk : ks.all (fun p => !(waitsB .any ops o p.1) || p.2 == i || edgeB ops p.2 i) = true) (hn : ∀ p ∈ ms, p.ia ≠ i ∧ p.is ≠ i ∧ o.dst ≠ some p.d) : KindX P ops Q (SPS tbl) ks ms a0 w0 i o := .inl ⟨opOkM_n (SPS.st tbl) h hk, hn⟩
theorem kx_alloc (p : Mk) (z : Value) (hp : p ∈ ms) (hi : p.ia = i) (hd : o.dst = some p.d) (hg : o.guard = none) (h1 : ∀ q ∈ ms, q.ia = i → q.d = p.d) (h2 : ∀ q ∈ ms, q.is ≠ i ∧ (q.d = p.d → q = p))
    (hrun : ∀ (a : Act) (w : World), (execOp a.eval o).run P w = .ok (.value (.pointer (some ⟨w.heap.size, 0, none⟩))) (w.alloc (.cells #[z] p.T))) : KindX P ops Q SP ks ms a0 w0 i o :=
  .inr (.inl ⟨p, hp, z, hi, hd, hg, h1, h2, hrun⟩)
theorem kx_store (p : Mk) (hp : p ∈ ms) (hi : p.is = i) (hd : o.dst = none) (hg : o.guard = none) (hw1 : waitsB .any ops o p.d = true) (hw2 : waitsB .any ops o p.s = true) (hw3 : (o.after.any fun e => Region.binds .any e && e.on == p.ia) = true)
    (h1 : ∀ q ∈ ms, q.ia ≠ i ∧ (q.is = i → q = p) ∧ (q.d = p.d → q = p)) (hk : ∀ j, (p.s, j) ∉ ks) (h2 : ∀ v w, SP p.s v w → ∃ A l c, v = .agg #[.slice A l c])
    (hrun : ∀ (a : Act) (w : World) (b : Nat) (y : Value) (A : Option Addr) (l c : Nat), a.eval (.tmp p.d) = .pointer (some ⟨b, 0, none⟩) → a.eval (.tmp p.s) = .agg #[.slice A l c] → Bk b p.T #[y] w → (execOp a.eval o).run P w = .ok .skip (w.setCell ⟨b, 0, none⟩ (.slice A l c))) : KindX P ops Q SP ks ms a0 w0 i o :=
  .inr (.inr ⟨p, hp, hi, hd, hg, hw1, hw2, hw3, h1, hk, h2, hrun⟩)
end
/-- What a store into a view's block leaves as it is. -/
def Sp.Put (s : Sp) : Prop := ∀ v w b y x, Bk b 27 #[y] w → s.p v w → s.p v (w.setCell ⟨b, 0, none⟩ x)
theorem sps_put {tbl : List (Nat × Sp)} (h : ∀ p ∈ tbl, p.2.Put) {t : Nat} {v : Value} {w : World} {b : Nat} {y x : Value} (hk : Bk b 27 #[y] w) (hs : SPS tbl t v w) : SPS tbl t v (w.setCell ⟨b, 0, none⟩ x) := fun s e => h _ (lookup_memS e) _ _ _ _ _ hk (hs s e)
theorem put_val (x : Value) : (Sp.val x).Put := fun _ _ _ _ _ _ h => h
/-- A view that was told. -/
def spTv (T : List Fa) : Sp := ⟨fun v w => ∃ A, v = .agg #[.slice A T.length T.length] ∧ SlN 0 w A T, fun _ _ _ ⟨A, h1, h2⟩ hb => ⟨A, h1, h2.below hb⟩⟩
def spLit (B : Nat) : Sp := ⟨fun v w => ∃ h, v = .slice (some ⟨h, 0, none⟩) 0 0 ∧ B ≤ h ∧ Bk h 61 #[] w, fun _ _ _ ⟨h, h1, h2, h3⟩ hb => ⟨h, h1, h2, bk_bel h3 hb⟩⟩
def spOwF (B : Nat) (l : List Fa) : Sp := ⟨fun v w => Own encF 8 61 B v l w, fun _ _ _ h hb => own_bel h hb⟩
theorem put_Tv (T : List Fa) : (spTv T).Put := fun _ _ _ _ _ hk ⟨A, h1, h2⟩ => ⟨A, h1, h2.keepRe hk _⟩
theorem put_Lit (B : Nat) : (spLit B).Put := fun _ w b _ x hk ⟨h, h1, h2, h3⟩ => ⟨h, h1, h2, (heap_setCell_other w ⟨b, 0, none⟩ h _ (fun e => by
  have e2 : h = b := e
  subst e2
  have h4 := h3.symm.trans hk
  injection h4 with h4
  injection h4 with h4 _ _
  cases h4)).trans h3⟩
theorem put_OwF (B : Nat) (l : List Fa) : (spOwF B l).Put := fun _ _ _ _ _ hk h => own_put h hk (by decide)
theorem put_Sl (L : List Fa) : (spSl encF 8 L).Put := fun _ _ _ _ _ hk ⟨A, c, h1, h2⟩ => ⟨A, c, h1, SlF.keepRe h2 hk _⟩
theorem sl_keep {w w' : World} {A : Option Addr} {L : List Fa} {r : Option Nat} (h : SlF w A L) (hg : w.grownBy w' r) (hc : ∀ b off, A = some ⟨b, off, none⟩ → r = some b → ∀ i x, L[i]? = some x → ∀ j u, (encF x)[j]? = some u → w.cell? ⟨b, off + i * 8 + j, none⟩ = some u → w'.cell? ⟨b, off + i * 8 + j, none⟩ = some u) : SlF w' A L := fun hl => by
  obtain ⟨b, off, e, hlt, hh⟩ := h hl
  refine ⟨b, off, e, Nat.lt_of_lt_of_le hlt hg.size, fun i x hx j u hu => ?_⟩
  by_cases hr : r = some b
  · exact hc b off e hr i x hx j u hu (hh i x hx j u hu)
  · rw [World.cell?_of_block (hg.block b hlt (fun h => hr h.symm))]
    exact hh i x hx j u hu
/-- Behind an append to an empty row. -/
theorem sl_lit {B : Nat} {vs : Value} {w w' : World} {A : Option Addr} {L : List Fa} (hs : (spLit B).p vs w) (h : SlF w A L) (hg : w.grownBy w' vs.ownBlock) : SlF w' A L := by
  obtain ⟨g, rfl, _, hk⟩ := hs
  refine sl_keep h hg fun b off _ hr i x hx j u hu hcell => ?_
  have e : g = b := by simpa [Value.ownBlock] using hr
  subst e
  rw [hk.cell] at hcell
  simp at hcell
theorem keep_lit_Tv {B : Nat} {T m : List Fa} : ∀ v w w' vs v', (spLit B).p vs w → (spTv T).p v w → Own encF 8 61 B v' ([] ++ m) w' → w.grownBy w' vs.ownBlock → (w.grownBy w' none ∨ v'.ownBlock = vs.ownBlock) → (spTv T).p v w' := fun _ _ _ _ _ hs ⟨A, h1, h2⟩ _ hg _ => ⟨A, h1, sl_lit hs h2.1 hg, h2.2⟩
theorem keep_lit_Sl {B : Nat} {L m : List Fa} : ∀ v w w' vs v', (spLit B).p vs w → (spSl encF 8 L).p v w → Own encF 8 61 B v' ([] ++ m) w' → w.grownBy w' vs.ownBlock → (w.grownBy w' none ∨ v'.ownBlock = vs.ownBlock) → (spSl encF 8 L).p v w' := fun _ _ _ _ _ hs ⟨A, c, h1, h2⟩ _ hg _ => ⟨A, c, h1, sl_lit hs h2 hg⟩
/-- Behind an append to a row that is longer: a row's first cells are as they were, wherever it lies. -/
theorem keep_own_Tv {B : Nat} {T l m : List Fa} (hT : T.length ≤ l.length) : ∀ v w w' vs v', (spOwF B l).p vs w → (spTv T).p v w → Own encF 8 61 B v' (l ++ m) w' → w.grownBy w' vs.ownBlock → (w.grownBy w' none ∨ v'.ownBlock = vs.ownBlock) → (spTv T).p v w' := fun v w w' vs v' hs ⟨A, h1, h2⟩ ho hg hpl => by
  refine ⟨A, h1, ?_, h2.2⟩
  rcases hpl with hn | hpl
  · exact Sl.below h2.1 (grown_none hn)
  · refine sl_keep h2.1 hg fun b off e hr i x hx j u hu hcell => ?_
    have hi : i < l.length := by have := (List.getElem?_eq_some_iff.1 hx).1; omega
    have hl : l ≠ [] := by intro h; rw [h] at hi; simp at hi
    have hlm : l ++ m ≠ [] := by intro h; exact hl (List.append_eq_nil_iff.1 h).1
    obtain ⟨rfl, _⟩ := h2.2 b off e
    obtain ⟨y, hy⟩ : ∃ y, l[i]? = some y := ⟨_, List.getElem?_eq_getElem hi⟩
    have hy2 : (l ++ m)[i]? = some y := by rw [List.getElem?_append_left hi]; exact hy
    obtain ⟨g1, c1, e1, _, r1⟩ := Own.row encF_len (show Own encF 8 _ B vs l w from hs) hl
    obtain ⟨g2, c2, e2, _, r2⟩ := Own.row encF_len ho hlm
    have q1 : g1 = b := by rw [e1] at hr; simpa [Value.ownBlock] using hr
    have q2 : g2 = b := by rw [hr, e2] at hpl; simpa [Value.ownBlock] using hpl
    subst q1
    subst q2
    obtain ⟨u', hu'⟩ : ∃ u', (encF y)[j]? = some u' := ⟨_, List.getElem?_eq_getElem (by
      have h8 := (List.getElem?_eq_some_iff.1 hu).1
      rw [encF_len] at h8 ⊢
      exact h8)⟩
    have k1 := r1.cell hy hu'
    have k2 := r2.cell hy2 hu'
    rw [Nat.zero_add] at hcell ⊢
    rw [k1] at hcell
    rw [k2]
    exact hcell
/-- A row of one fact. -/
theorem one_new (f : Fa) (w : World) : SlF (w.alloc (.cells (FA f) 61)) (some ⟨w.heap.size, 0, none⟩) [f] := by
  intro _
  refine ⟨w.heap.size, 0, rfl, size_new _ _, fun i x hx j u hu => ?_⟩
  rw [(Bk.new w 61 _).cell, Nat.zero_add]
  have hi : i < 1 := by have := (List.getElem?_eq_some_iff.1 hx).1; simpa using this
  obtain rfl : i = 0 := by omega
  cases hx
  rw [Nat.zero_mul, Nat.zero_add]
  simpa [FA, encF] using hu
theorem build_one {ev : Operand → Value} {o : Oper} {t1 : Nat} {f : Fa} (hop : o.op = .buildSlice 22 1 #[(0, .tmp t1)]) (e1 : ev (.tmp t1) = .agg (FA f)) (W : World) :
    (execOp ev o).run Tryz.prog W = .ok (.value (.slice (some ⟨W.heap.size, 0, none⟩) 1 1)) (W.alloc (.cells (FA f) 61)) := by
  unfold FA at e1 ⊢
  unfold execOp
  simp only [hop]
  go_simp
end Go.Proofs.YtlgoaohklggcdaaGreatDoor
