import Derived.Test.YtdkbbngedjiheaaGreatDoorPe3
import Derived.Test.YtdkbbngedjiheaaGreatDoorRgu
import Derived.Test.YtdkbbngedjiheaaGreatDoorAwk
import Derived.Test.YtdkbbngedjiheaaGreatDoorOp9
/- The region in which StoreTurns asks whether it is asked: what its slots hold. -/
namespace Go.Proofs.YtdkbbngedjiheaaGreatDoor
open Go.RowKit Go.Sort

/-- Facts in a row of their own. -/
abbrev OwnF (B : Nat) (v : Value) (l : List Fa) (w : World) : Prop := Own encF 8 26 B v l w
theorem OwnF.empty {W : World} {h B : Nat} (hE : Bk h 26 #[] W) (hb : B ≤ h) : OwnF B (.slice (some ⟨h, 0, none⟩) 0 0) [] W :=
  ⟨rfl, .inr ⟨h, 0, #[], rfl, hb, hE, Nat.le_refl _, by simp [maxLen], rfl, rfl⟩⟩
theorem OwnF.sl {B : Nat} {v : Value} {l : List Fa} {w : World} (h : OwnF B v l w) : ∃ A cap, v = .slice A l.length cap ∧ SlF w A l := by
  by_cases h0 : l = []
  · subst h0
    rcases h.2 with ⟨rfl, _⟩ | ⟨g, cap, cur, rfl, hb, hg, hn0, hcm, hcs, ht⟩
    · exact ⟨none, 0, rfl, fun hl => absurd rfl hl⟩
    · exact ⟨some ⟨g, 0, none⟩, cap, rfl, fun hl => absurd rfl hl⟩
  · obtain ⟨g, cap, rfl, hb, hr⟩ := h.row encF_len h0
    exact ⟨some ⟨g, 0, none⟩, cap, rfl, fun _ => ⟨g, 0, rfl, hr.lt, fun i x hx j u hu => by rw [Nat.zero_add]; exact hr.cell hx hu⟩⟩
theorem OwnF.below_ {B : Nat} {w w' : World} {v : Value} {l : List Fa} (ho : OwnF B v l w) (hb : Below w.heap.size w w') : OwnF B v l w' :=
  ho.none_ ⟨hb.os, hb.tape, hb.output, hb.size, fun i hi _ => hb.block i hi⟩
theorem run_app_F {ty : TypeId} {B : Nat} {v : Value} {l m : List Fa} {A : Option Addr} {cap : Nat} {W : World} (ho : OwnF B v l W) (hs : SlF W A m) (hn : (l.length + m.length) * 72 ≤ 140737488355328) (hB : B ≤ W.heap.size) :
    ∃ v' W', (Builtin.append_ #[22, 22] ty #[v, .slice A m.length cap]).run Tryz.prog W = .ok v' W' ∧ OwnF B v' (l ++ m) W' ∧ W.grownBy W' v.ownBlock := by
  obtain ⟨i, hi1, hz, hsize, hby⟩ := info_parts factInfo
  by_cases h0 : m = []
  · subst h0
    have hsl : ∃ b s c, v = .slice b s c ∧ s ≤ c := by
      rcases ho.2 with ⟨rfl, _⟩ | ⟨g, c, cur, rfl, _, _, h, _⟩
      · exact ⟨none, 0, 0, rfl, Nat.le_refl _⟩
      · exact ⟨_, _, _, rfl, h⟩
    obtain ⟨b, s, c, rfl, hsc⟩ := hsl
    refine ⟨.slice b s c, W, ?_, by simpa using ho, World.grownBy.refl _ _⟩
    refine run_append_nothing W _ _ ty _ i Tryz.underlying22 hi1 b s c hsc _ ?_
    cases A with
    | none => exact Src.ofNil W Tryz.underlying22 cap
    | some a => exact Src.ofSlice W Tryz.underlying22 a 0 cap [] (by simp) (fun j u hu => by simp at hu) (fun u hu => by cases hu)
  · obtain ⟨b, off, rfl, _, _⟩ := hs h0
    obtain ⟨v', W', h1, h2, h3, _⟩ := run_append_own_at (P := Tryz.prog) W B 22 ty 26 i _ 8 72 Tryz.underlying22 hi1 hz hsize hby rfl (by omega) v l.length (rowOf encF l) ho ⟨b, off, none⟩ m.length cap (rowF m) (rowF_len m) (rowF_cells hs rfl) (rowF_one m) (by simp only [maxLen]; omega) (by omega) hB
    refine ⟨v', W', h1, ?_, h3⟩
    unfold OwnF Own
    rw [List.length_append, rowOf_append]
    exact h2
theorem belowF {B : Nat} {w w' : World} {v : Value} {l : List Fa} (hB : B = w.heap.size) (ho : OwnF B v l w) (hg : w.grownBy w' v.ownBlock) : Below w.heap.size w w' :=
  ⟨hg.os, hg.tape, hg.output, hg.size, fun i hi => hg.block i hi (ho.far (by omega))⟩

structure Ptu where
  B : Nat
  fb : Nat
  gb : Nat
  A : Option Addr
  ca : Nat
  l : List Fa
  f : Fa
  g : Fa
  b1 : Bool
  b2 : Bool
  b3 : Bool
  b4 : Bool
  b5 : Bool
/-- What a slot holds. -/
def SPt (p : Ptu) (t : Nat) (v : Value) (w : World) : Prop := match t with
  | 0 | 25 => v = .slice p.A p.l.length p.ca
  | 4 => v = .pointer (some ⟨p.fb, 0, none⟩)
  | 5 => v = .pointer (some ⟨p.gb, 0, none⟩)
  | 24 => ∃ h, v = .slice (some ⟨h, 0, none⟩) 0 0 ∧ p.B ≤ h ∧ Bk h 26 #[] w
  | 26 => OwnF p.B v p.l w
  | 27 => v = .agg (FA p.f)
  | 28 => v = .agg (FA p.g)
  | 29 => ∃ h, v = .slice (some ⟨h, 0, none⟩) 2 2 ∧ SlF w (some ⟨h, 0, none⟩) [p.f, p.g]
  | 30 => OwnF p.B v (p.l ++ [p.f, p.g]) w
  | 31 => v = .bool p.b1
  | 32 | 33 => v = .bool (!p.b1)
  | 34 => p.b1 = true → v = .pointer (some ⟨p.fb, 2, none⟩)
  | 35 => p.b1 = true → v = .int .i64 p.f.ki
  | 36 => p.b1 = true → v = .bool p.b2
  | 37 | 38 => v = .bool (!p.b1 || p.b2)
  | 39 => (!p.b1 || p.b2) = false → v = .pointer (some ⟨p.gb, 2, none⟩)
  | 40 => (!p.b1 || p.b2) = false → v = .int .i64 p.g.ki
  | 41 => (!p.b1 || p.b2) = false → v = .bool p.b3
  | 42 | 43 => v = .bool (!p.b1 || p.b2 || p.b3)
  | 44 => (!p.b1 || p.b2 || p.b3) = false → v = .pointer (some ⟨p.fb, 1, none⟩)
  | 45 => (!p.b1 || p.b2 || p.b3) = false → v = .int .u32 p.f.pe
  | 46 => (!p.b1 || p.b2 || p.b3) = false → v = .pointer (some ⟨p.gb, 1, none⟩)
  | 47 => (!p.b1 || p.b2 || p.b3) = false → v = .int .u32 p.g.pe
  | 48 | 49 => v = if (!p.b1 || p.b2 || p.b3) = false then .bool p.b4 else undef
  | 50 => (!p.b1 || p.b2 || p.b3) = false ∧ p.b4 = true → v = .pointer (some ⟨p.fb, 2, none⟩)
  | 51 => (!p.b1 || p.b2 || p.b3) = false ∧ p.b4 = true → v = .int .i64 p.f.ki
  | 52 => (!p.b1 || p.b2 || p.b3) = false ∧ p.b4 = true → v = .pointer (some ⟨p.gb, 2, none⟩)
  | 53 => (!p.b1 || p.b2 || p.b3) = false ∧ p.b4 = true → v = .int .i64 p.g.ki
  | 54 => (!p.b1 || p.b2 || p.b3) = false ∧ p.b4 = true → v = .bool p.b5
  | 55 => (!p.b1 || p.b2 || p.b3) = false → v = .bool (p.b4 && p.b5)
  | 56 => v = .bool (!p.b1 || p.b2 || p.b3 || p.b4 && p.b5)
  | _ => True
theorem SPt.st (p : Ptu) : ∀ t v w w', SPt p t v w → Below w.heap.size w w' → SPt p t v w' := by
  intro t v w w' h hb
  unfold SPt at h
  split at h
  all_goals first
    | exact h
    | exact Own.none_ h ⟨hb.os, hb.tape, hb.output, hb.size, fun i hi _ => hb.block i hi⟩
    | (obtain ⟨x, h1, h2, h3⟩ := h; exact ⟨x, h1, h2, (hb.block x (Bk.lt h3)).trans h3⟩)
    | (obtain ⟨x, h1, h2⟩ := h; exact ⟨x, h1, h2.below hb⟩)
    | (unfold SPt; split <;> first | trivial | (exfalso; simp_all))
theorem SPt.free (p : Ptu) (t : Nat) (v : Value) (w : World) (h : t ∉ [0, 4, 5, 24, 25, 26, 27, 28, 29, 30, 31, 32, 33, 34, 35, 36, 37, 38, 39, 40, 41, 42, 43, 44, 45, 46, 47, 48, 49, 50, 51, 52, 53, 54, 55, 56]) : SPt p t v w := by
  unfold SPt
  split
  all_goals first | trivial | (exfalso; exact h (by simp))
theorem ops_all2 {l : List Oper} {q : Oper → Prop} (h : ∀ o ∈ l, q o) : ∀ (i : Nat) (o : Oper), l.toArray[i]? = some o → q o := fun i o ho => h o (by
  have := Array.mem_of_getElem? ho
  simpa using this)
/-- Behind which operation a slot is used up. -/
def klt : Nat → Option Nat
  | 24 => some 2
  | 26 => some 6
  | 29 => some 6
  | _ => none
theorem SPt.pure_ (p : Ptu) (t : Nat) (v : Value) (w w' : World) (h : t ≠ 24 ∧ t ≠ 26 ∧ t ≠ 29 ∧ t ≠ 30) (hs : SPt p t v w) : SPt p t v w' := by
  unfold SPt at hs
  split at hs
  all_goals first
    | exact hs
    | (exfalso; exact h.1 rfl)
    | (exfalso; exact h.2.1 rfl)
    | (exfalso; exact h.2.2.1 rfl)
    | (exfalso; exact h.2.2.2 rfl)
    | (unfold SPt; split <;> first | trivial | (exfalso; simp_all))
/-- An append of facts, by its run. -/
theorem app_run {o : Oper} {s x : Nat} (hop : o.op = .call { callee := .builtin .append, args := #[.tmp s, .tmp x], argTypes := #[22, 22] })
    {B : Nat} {v : Value} {l m : List Fa} {A : Option Addr} {n cap : Nat} {a : Act} {W : World} (hv : a.eval (.tmp s) = v) (hx : a.eval (.tmp x) = .slice A n cap) (hm : m.length = n) (ho : OwnF B v l W) (hs : SlF W A m) (hn : (l.length + m.length) * 72 ≤ 140737488355328) (hB : B ≤ W.heap.size) :
    ∃ v' W', (execOp a.eval o).run Tryz.prog W = .ok (.value v') W' ∧ OwnF B v' (l ++ m) W' ∧ W.grownBy W' v.ownBlock := by
  subst hm
  obtain ⟨v', W', hr, h2, h3⟩ := run_app_F (ty := o.type) (cap := cap) ho hs hn hB
  refine ⟨v', W', ?_, h2, h3⟩
  unfold execOp
  simp only [hop, resolve, invoke, builtin, Sem.run_bind, Sem.run_pure, Result.andThen_ok, List.map_toArray, List.map_cons, List.map_nil, hv, hx, hr]
theorem below_own {B : Nat} {w0 w w' : World} {v : Value} {l : List Fa} (h : Below B w0 w) (hB : B ≤ w.heap.size) (ho : OwnF B v l w) (hg : w.grownBy w' v.ownBlock) : Below B w0 w' :=
  h.trans ⟨hg.os, hg.tape, hg.output, hg.size, fun i hi => hg.block i (by omega) (ho.far hi)⟩
theorem SlF.grown {w w' : World} {b off : Nat} {L : List Fa} {r : Option Nat} (h : SlF w (some ⟨b, off, none⟩) L) (hg : w.grownBy w' r) (hne : some b ≠ r) : SlF w' (some ⟨b, off, none⟩) L := fun hl => by
  obtain ⟨b', off', e, hb, hc⟩ := h hl
  injection e with e
  injection e with e1 e2
  subst e1; subst e2
  exact ⟨b, off, rfl, Nat.lt_of_lt_of_le hb hg.size, fun i x hx j u hu => (World.cell?_of_block (a := ⟨b, off + i * 8 + j, none⟩) (hg.block b hb hne)).trans (hc i x hx j u hu)⟩
theorem not_empty {w : World} {h b : Nat} {t : TypeId} {u : Value} (hk : Bk h t #[] w) (hc : w.cell? ⟨b, 0, none⟩ = some u) : b ≠ h := by
  rintro rfl
  rw [hk.cell] at hc
  cases hc
theorem y_app1 {P : Ptu} {ops : Array Oper} {w0 : World} {o : Oper} (hop : o.op = .call { callee := .builtin .append, args := #[.tmp 24, .tmp 25], argTypes := #[22, 22] }) (hd : o.dst = some 26) (h1 : waits2 .any ops o 24 = true) (h2 : waits2 .any ops o 25 = true)
    (hB : P.B = w0.heap.size) (hL : SlF w0 P.A P.l) (hn : (P.l.length + 2) * 72 ≤ 140737488355328) : Yields Tryz.prog ops (SPt P) klt w0 2 o 26 := by
  intro a W hb hsp
  obtain ⟨h, hv, hBh, hk⟩ := hsp 24 h1 (.inr rfl)
  have hx : a.eval (.tmp 25) = .slice P.A P.l.length P.ca := hsp 25 h2 (.inl rfl)
  have ho := OwnF.empty hk hBh
  obtain ⟨v', W', hr, ho', hg⟩ := app_run hop (a := a) (W := W) hv hx rfl ho (hL.below hb) (by simp; omega) (by rw [hB]; exact hb.size)
  have hg2 : W.grownBy W' (some h) := hg
  refine ⟨v', W', hr, below_own (B := w0.heap.size) hb hb.size (by rw [← hB]; exact ho) hg, fun t hd2 hke hs => ?_, ho'⟩
  by_cases e : t ≠ 24 ∧ t ≠ 26 ∧ t ≠ 29 ∧ t ≠ 30
  · exact SPt.pure_ P t _ _ _ e hs
  · by_cases e24 : t = 24
    · subst e24; exact absurd rfl (hke 2 rfl).1
    by_cases e26 : t = 26
    · subst e26; exact absurd hd hd2
    by_cases e29 : t = 29
    · subst e29
      obtain ⟨b, hb1, hb2⟩ := hs
      obtain ⟨b', off', e, _, hc⟩ := hb2 (by simp)
      injection e with e
      injection e with e1 e2
      subst e1; subst e2
      have hne := not_empty hk (by simpa using hc 0 P.f rfl 0 _ rfl)
      exact ⟨b, hb1, SlF.grown hb2 hg2 (by simpa using hne)⟩
    · obtain rfl : t = 30 := Decidable.byContradiction fun h30 => e ⟨e24, e26, e29, h30⟩
      have hs2 : OwnF P.B (a.tmps.getD 30 undef) (P.l ++ [P.f, P.g]) W := hs
      obtain ⟨g, cap, hv2, _, hr2⟩ := Own.row encF_len hs2 (by simp)
      obtain ⟨f0, hf0⟩ : ∃ f0, (P.l ++ [P.f, P.g])[0]? = some f0 := ⟨_, List.getElem?_eq_getElem (by simp)⟩
      have hne := not_empty hk (by simpa using hr2.cell hf0 (j := 0) rfl)
      refine Own.kept hs2 hg2 (.inr ?_)
      rw [hv2]
      simpa [Value.ownBlock] using hne
theorem y_app2 {P : Ptu} {ops : Array Oper} {w0 : World} {o : Oper} (hop : o.op = .call { callee := .builtin .append, args := #[.tmp 26, .tmp 29], argTypes := #[22, 22] }) (hd : o.dst = some 30) (h1 : waits2 .any ops o 26 = true) (h2 : waits2 .any ops o 29 = true) (h24 : (o.after.any fun e => Region.binds .any e && e.on == 2) = true)
    (hB : P.B = w0.heap.size) (hn : (P.l.length + 2) * 72 ≤ 140737488355328) : Yields Tryz.prog ops (SPt P) klt w0 6 o 30 := by
  intro a W hb hsp
  have ho : OwnF P.B (a.tmps.getD 26 undef) P.l W := hsp 26 h1 (.inr rfl)
  obtain ⟨h, hv, hs2⟩ := hsp 29 h2 (.inr rfl)
  obtain ⟨v', W', hr, ho', hg⟩ := app_run hop (a := a) (W := W) rfl hv rfl ho hs2 (by simp; omega) (by rw [hB]; exact hb.size)
  refine ⟨v', W', hr, below_own (B := w0.heap.size) hb hb.size (by rw [← hB]; exact ho) hg, fun t hd2 hke hs => ?_, ho'⟩
  by_cases e : t ≠ 24 ∧ t ≠ 26 ∧ t ≠ 29 ∧ t ≠ 30
  · exact SPt.pure_ P t _ _ _ e hs
  · by_cases e24 : t = 24
    · subst e24
      have := (hke 2 rfl).2
      rw [h24] at this; cases this
    by_cases e26 : t = 26
    · subst e26; exact absurd rfl (hke 6 rfl).1
    by_cases e29 : t = 29
    · subst e29; exact absurd rfl (hke 6 rfl).1
    · obtain rfl : t = 30 := Decidable.byContradiction fun h30 => e ⟨e24, e26, e29, h30⟩
      exact absurd hd hd2
theorem ops_cons {o : Oper} {l : List Oper} {n : Nat} {q : Nat → Oper → Prop} (h : q n o) (k : ∀ (i : Nat) (o : Oper), l[i]? = some o → q (n + 1 + i) o) : ∀ (i : Nat) (o' : Oper), (o :: l)[i]? = some o' → q (n + i) o' := fun i o' ho => by
  cases i with
  | zero =>
    have e : o = o' := by simpa using ho
    subst e
    exact h
  | succ i =>
    have := k i o' (by simpa using ho)
    rwa [show n + 1 + i = n + (i + 1) by omega] at this
theorem ops_all3 {l : List Oper} {q : Nat → Oper → Prop} (h : ∀ (i : Nat) (o : Oper), l[i]? = some o → q (0 + i) o) : ∀ (i : Nat) (o : Oper), l.toArray[i]? = some o → q i o := fun i o ho => by
  have := h i o (by simpa using ho)
  rwa [Nat.zero_add] at this
end Go.Proofs.YtdkbbngedjiheaaGreatDoor
