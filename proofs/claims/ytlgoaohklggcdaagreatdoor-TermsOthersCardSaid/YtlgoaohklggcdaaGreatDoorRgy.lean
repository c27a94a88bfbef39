import Derived.Test.YtlgoaohklggcdaaGreatDoorRgx
import Derived.Test.YtlgoaohklggcdaaGreatDoorLta
import Derived.Test.YtlgoaohklggcdaaGreatDoorLtn
/- An append into a row of the region's own, in a drawn region: what else the region holds stays. -/
namespace Go.Proofs.YtlgoaohklggcdaaGreatDoor
open Go.RowKit Go.Sort

section
variable {P : Program} (w : World)
/-- An append writes into the row's own spare cells, or leaves all elder blocks alone. -/
theorem run_append_pre (base : Nat) (t ty e : TypeId) (i : TypeInfo) (z : Value) (size bytes : Nat) (ht : P.underlying t = some (.slice e)) (hi : P.info? e = some i) (hz : i.zero = some z)
    (hsize : i.size = size) (hby : i.bytes = bytes) (hzs : z.cells.size = size) (hsz : 0 < size)
    (v : Value) (n : Nat) (xs : List Value) (hown : w.ownsRow base e size v n xs)
    (a : Addr) (m c : Nat) (news : List Value) (hl : news.length = m * size) (hnews : ∀ j u, news[j]? = some u → w.cell? (a.add j) = some u) (h1 : ∀ u ∈ news, u.oneCell' = true)
    (h63 : n + m ≤ maxLen) (hbytes : (n + m) * bytes ≤ 140737488355328) (hbase : base ≤ w.heap.size) :
    ∃ v' w', (Builtin.append_ #[t, t] ty #[v, .slice (some a) m c]).run P w = .ok v' w' ∧ w'.ownsRow base e size v' (n + m) (xs ++ news) ∧ w.grownBy w' v.ownBlock ∧ (w.grownBy w' none ∨ v'.ownBlock = v.ownBlock) := by
  obtain ⟨v', w', hr, h2, h3, _⟩ := run_append_own (P := P) w base t ty e i z size bytes ht hi hz hsize hby hzs hsz v n xs hown a m c news hl hnews h1 h63 hbytes hbase
  refine ⟨v', w', hr, h2, h3, ?_⟩
  rcases hown.2 with ⟨rfl, _⟩ | ⟨g, cap, cur, rfl, hbg, hg, hnc, hcm, hcs, _⟩
  · exact .inl h3
  · subst hsize
    subst hby
    by_cases hroom : n + m ≤ cap
    · have hfit : n * i.size + news.length ≤ cur.size := by rw [hl, hcs, ← Nat.add_mul]; exact Nat.mul_le_mul_right _ hroom
      have hr2 := run_append_room (P := P) w t ty e i ht hi g n cap cur hg a m c news hl hnews h1 hroom hfit
      rw [hr] at hr2
      injection hr2 with hv _
      right
      rw [hv]
      rfl
    · have hsmall : n + m ≤ 9223372036854775807 := by simp only [maxLen] at h63; omega
      have holds : ∀ j u, xs[j]? = some u → w.cell? ((⟨g, 0, none⟩ : Addr).add j) = some u := hown.cells (g := g) rfl
      have hr2 := run_append_grow (P := P) w t ty e i z ht hi hz ⟨g, 0, none⟩ n cap xs hown.1 holds a m c news hl hnews (by omega) (by omega) (growslice_fits (by omega) hbytes)
      rw [hr] at hr2
      injection hr2 with _ hw
      left
      rw [hw]
      exact ⟨rfl, rfl, rfl, by simp, fun k hk _ => heap_alloc_old w.drew _ hk⟩
/-- An append to a row without spare cells leaves all elder blocks alone. -/
theorem run_append_full (base : Nat) (t ty e : TypeId) (i : TypeInfo) (z : Value) (size bytes : Nat) (ht : P.underlying t = some (.slice e)) (hi : P.info? e = some i) (hz : i.zero = some z)
    (hsize : i.size = size) (hby : i.bytes = bytes) (hzs : z.cells.size = size) (hsz : 0 < size)
    (g n : Nat) (xs : List Value) (hown : w.ownsRow base e size (.slice (some ⟨g, 0, none⟩) n n) n xs)
    (a : Addr) (m c : Nat) (news : List Value) (hl : news.length = m * size) (hnews : ∀ j u, news[j]? = some u → w.cell? (a.add j) = some u) (h1 : ∀ u ∈ news, u.oneCell' = true) (hm : 0 < m)
    (h63 : n + m ≤ maxLen) (hbytes : (n + m) * bytes ≤ 140737488355328) (hbase : base ≤ w.heap.size) :
    ∃ v' w', (Builtin.append_ #[t, t] ty #[.slice (some ⟨g, 0, none⟩) n n, .slice (some a) m c]).run P w = .ok v' w' ∧ w'.ownsRow base e size v' (n + m) (xs ++ news) ∧ w.grownBy w' none := by
  obtain ⟨v', w', hr, h2, h3, _⟩ := run_append_own (P := P) w base t ty e i z size bytes ht hi hz hsize hby hzs hsz _ n xs hown a m c news hl hnews h1 h63 hbytes hbase
  refine ⟨v', w', hr, h2, ?_⟩
  have hsmall : n + m ≤ 9223372036854775807 := by simp only [maxLen] at h63; omega
  have holds : ∀ j u, xs[j]? = some u → w.cell? ((⟨g, 0, none⟩ : Addr).add j) = some u := hown.cells (g := g) rfl
  subst hsize
  subst hby
  have hr2 := run_append_grow (P := P) w t ty e i z ht hi hz ⟨g, 0, none⟩ n n xs hown.1 holds a m c news hl hnews (by omega) (by omega) (growslice_fits (by omega) hbytes)
  rw [hr] at hr2
  injection hr2 with _ hw
  rw [hw]
  exact ⟨rfl, rfl, rfl, by simp, fun k hk _ => heap_alloc_old w.drew _ hk⟩
/-- An append of nothing. -/
theorem run_append_nothing (base : Nat) (t ty e : TypeId) (i : TypeInfo) (size : Nat) (ht : P.underlying t = some (.slice e)) (hi : P.info? e = some i) (v : Value) (n : Nat) (xs : List Value) (hown : w.ownsRow base e size v n xs) (A : Option Addr) (c : Nat) :
    (Builtin.append_ #[t, t] ty #[v, .slice A 0 c]).run P w = .ok v w := by
  rcases hown.2 with ⟨rfl, rfl⟩ | ⟨g, cap, cur, rfl, _, _, hnc, _⟩
  · cases A <;> simp [Builtin.append_, run_underlying ht, sizeOf, typeInfo, hi, Builtin.lenOf, Builtin.firstCells, loadCells, loadCellsFrom]
  · cases A <;> simp [Builtin.append_, run_underlying ht, sizeOf, typeInfo, hi, Builtin.lenOf, Builtin.firstCells, hnc, storeCells, loadCells, loadCellsFrom]
end
section
variable {α : Type} {enc : α → List Value} {k : Nat} {e : TypeId} {B : Nat} {v : Value} {l : List α} {w w' : World}
/-- A row's block is no block of another type. -/
theorem own_other {b : Nat} {T : TypeId} {cs : Array Value} (h : Own enc k e B v l w) (hb : Bk b T cs w) (hT : T ≠ e) : v.ownBlock ≠ some b := by
  intro hv
  rcases h.2 with ⟨rfl, _⟩ | ⟨g, cap, cur, rfl, _, hg, _⟩
  · cases hv
  · have e1 : g = b := by simpa [Value.ownBlock] using hv
    subst e1
    rw [hb] at hg
    injection hg with hg
    injection hg with _ hg _
    exact hT hg
theorem own_put {b : Nat} {T : TypeId} {y x : Value} (h : Own enc k e B v l w) (hb : Bk b T #[y] w) (hT : T ≠ e) : Own enc k e B v l (w.setCell ⟨b, 0, none⟩ x) :=
  h.kept (gSet w 0 x) (.inr (own_other h hb hT))
end
theorem grown_none {w w' : World} (h : w.grownBy w' none) : Below w.heap.size w w' := ⟨h.os, h.tape, h.output, h.size, fun i hi => h.block i hi (by simp)⟩
section
variable {ops : Array Oper} {Q : Exit → Act → World → Prop} {tbl : List (Nat × Sp)} {ks : List (Nat × Nat)} {ms : List Mk} {a0 : Act} {w0 : World} {o : Oper} {i d s x : Nat}
/-- An append into a row of the region's own. -/
theorem opOkM_app {α : Type} {enc : α → List Value} {k : Nat} (hk : ∀ x, (enc x).length = k) (h1 : ∀ x, ∀ u ∈ enc x, u.oneCell' = true) {t e : TypeId} {z : Value} {bytes : Nat} (ht : Tryz.prog.underlying t = some (.slice e)) (hi : (Tryz.prog.info? e).map (fun i => (i.zero, i.size, i.bytes)) = some (some z, k, bytes)) (hzs : z.cells.size = k) (hsz : 0 < k)
    {l m : List α} (hop : o.op = .call { callee := .builtin .append, args := #[.tmp s, .tmp x], argTypes := #[t, t] }) (hd : o.dst = some d) (hg : o.guard = none) (hs : waitsB .any ops o s = true) (hx : waitsB .any ops o x = true)
    (hks : ks.all (fun p => !(waitsB .any ops o p.1) || p.2 == i || edgeB ops p.2 i) = true)
    (S X : Sp) (eS : tbl.lookup s = some S) (eX : tbl.lookup x = some X)
    (hS : ∀ v w, S.p v w → Own enc k e w0.heap.size v l w) (hX : ∀ v w, X.p v w → ∃ A c, v = .slice A m.length c ∧ Sl enc k w w.heap.size A m)
    (hn : l.length + m.length ≤ 1000000) (hb : bytes ≤ 1000)
    (hD : ∀ D, tbl.lookup d = some D → ∀ v w, Own enc k e w0.heap.size v (l ++ m) w → D.p v w)
    (hms : ∀ p ∈ ms, p.T ≠ e)
    (hkeep : ∀ p ∈ tbl, p.1 = d ∨ (p.1, i) ∈ ks ∨ earlyB ops i p.1 = false ∨ ∀ v w w' vs v', S.p vs w → p.2.p v w → Own enc k e w0.heap.size v' (l ++ m) w' → w.grownBy w' vs.ownBlock → (w.grownBy w' none ∨ v'.ownBlock = vs.ownBlock) → p.2.p v w') :
    OpOkM Tryz.prog ops Q (SPS tbl) ks ms a0 w0 i o := by
  intro a w hbw _ _ _ hsp
  have hw : Region.wanted o (yielded ops a.tmps) = true := by simp [Region.wanted, hg]
  refine ⟨hw, ?_⟩
  have hkk : ∀ t, waitsB .any ops o t = true → ∀ j, (t, j) ∈ ks → j = i ∨ edgeB ops j i = true := fun t ht2 j hj => by
    rw [List.all_eq_true] at hks
    have := hks (t, j) hj
    simp only [ht2, Bool.not_true, Bool.false_or, Bool.or_eq_true, beq_iff_eq] at this
    exact this
  have p1 := hsp s hs (hkk s hs) S eS
  have o1 := hS _ _ p1
  obtain ⟨A, c, e2, hsl⟩ := hX _ _ (hsp x hx (hkk x hx) X eX)
  obtain ⟨i0, hi1, hz, hsize, hby⟩ := info_parts hi
  have hfin : ∀ v' w', Own enc k e w0.heap.size v' (l ++ m) w' → w.grownBy w' (a.tmps.getD s undef).ownBlock → (w.grownBy w' none ∨ v'.ownBlock = (a.tmps.getD s undef).ownBlock) → ∃ v, a.put o.dst v' = a.put o.dst v ∧ Below w0.heap.size w0 w' ∧ w.heap.size ≤ w'.heap.size ∧ (∀ t, o.dst ≠ some t → earlyB ops i t = true → (t, i) ∉ ks → SPS tbl t (a.tmps.getD t undef) w → SPS tbl t (a.tmps.getD t undef) w') ∧ (∀ p ∈ ms, ∀ b y, w0.heap.size ≤ b → Bk b p.T #[y] w → Bk b p.T #[y] w') ∧ ∀ d, o.dst = some d → SPS tbl d v w' := fun v' w' ho hgr hpl => by
    refine ⟨v', rfl, bel_own hbw hbw.size o1 hgr, hgr.size, fun t htd he htk hst S2 e3 => ?_, fun p hp b y _ hbk => ?_, fun d' hd' D e3 => ?_⟩
    · rcases hkeep _ (lookup_memS e3) with h | h | h | h
      · exact absurd (by rw [hd]; exact congrArg some h.symm) htd
      · exact absurd h htk
      · rw [he] at h; cases h
      · exact h _ _ _ _ _ p1 (hst S2 e3) ho hgr hpl
    · exact (hgr.block b hbk.lt (fun h => own_other o1 hbk (hms p hp) h.symm)).trans hbk
    · rw [hd] at hd'
      injection hd' with hd'
      subst hd'
      exact hD D e3 _ _ ho
  have e1 : a.eval (.tmp s) = a.tmps.getD s undef := rfl
  have e3 : a.eval (.tmp x) = .slice A m.length c := e2
  by_cases hm : m = []
  · subst hm
    have hr : (Builtin.append_ #[t, t] o.type #[a.tmps.getD s undef, .slice A 0 c]).run Tryz.prog w = .ok (a.tmps.getD s undef) w :=
      run_append_nothing (P := Tryz.prog) w w0.heap.size t o.type e i0 k ht hi1 _ l.length (rowOf enc l) o1 A c
    unfold Oper.wp execOp
    simp only [hop, resolve, invoke, builtin, Sem.run_bind, Sem.run_pure, Result.andThen_ok, List.map_toArray, List.map_cons, List.map_nil, e1, e3, List.length_nil, hr]
    exact hfin _ _ (by rw [List.append_nil]; exact o1) (World.grownBy.refl _ _) (.inr rfl)
  · obtain ⟨b, off, rfl, _, hcl⟩ := hsl hm
    obtain ⟨v', w', hr, h2, h3, h4⟩ := run_append_pre (P := Tryz.prog) w w0.heap.size t o.type e i0 z k bytes ht hi1 hz hsize hby hzs hsz _ l.length (rowOf enc l) o1 ⟨b, off, none⟩ m.length c (rowOf enc m) (by rw [rowOf_length hk]) (fun j u hu => by
      rw [show (⟨b, off, none⟩ : Addr).add j = ⟨b, off + j, none⟩ from by unfold Addr.add; split <;> simp_all]
      exact Sl.newsN hk hcl j u hu) (fun u hu => by
      obtain ⟨y, _, hy⟩ := List.mem_flatMap.1 hu
      exact h1 y u hy) (by simp only [maxLen]; omega) (by
      have h5 : (l.length + m.length) * bytes ≤ 1000000 * 1000 := Nat.mul_le_mul hn hb
      omega) hbw.size
    unfold Oper.wp execOp
    simp only [hop, resolve, invoke, builtin, Sem.run_bind, Sem.run_pure, Result.andThen_ok, List.map_toArray, List.map_cons, List.map_nil, e1, e3, hr]
    refine hfin _ _ ?_ h3 h4
    show w'.ownsRow _ _ _ _ (l ++ m).length (rowOf enc (l ++ m))
    rw [List.length_append, rowOf_append]
    exact h2
/-- An append to a row without spare cells. -/
theorem opOk_full {α : Type} {enc : α → List Value} {k : Nat} (hk : ∀ x, (enc x).length = k) (h1 : ∀ x, ∀ u ∈ enc x, u.oneCell' = true) {t e : TypeId} {z : Value} {bytes : Nat} (ht : Tryz.prog.underlying t = some (.slice e)) (hi : (Tryz.prog.info? e).map (fun i => (i.zero, i.size, i.bytes)) = some (some z, k, bytes)) (hzs : z.cells.size = k) (hsz : 0 < k)
    {l m : List α} (hop : o.op = .call { callee := .builtin .append, args := #[.tmp s, .tmp x], argTypes := #[t, t] }) (hd : o.dst = some d) (hg : o.guard = none) (hs : waitsB .any ops o s = true) (hx : waitsB .any ops o x = true)
    (S X : Sp) (eS : tbl.lookup s = some S) (eX : tbl.lookup x = some X)
    (hS : ∀ v w, S.p v w → Own enc k e w0.heap.size v l w ∧ ∃ g, v = .slice (some ⟨g, 0, none⟩) l.length l.length) (hX : ∀ v w, X.p v w → ∃ A c, v = .slice A m.length c ∧ Sl enc k w w.heap.size A m)
    (hn : l.length + m.length ≤ 1000000) (hb : bytes ≤ 1000)
    (hD : ∀ D, tbl.lookup d = some D → ∀ v w, Own enc k e w0.heap.size v (l ++ m) w → D.p v w) : OpOk Tryz.prog .any ops Q (SPS tbl) a0 w0 o := by
  intro a w hbw _ _ hsp
  refine ⟨by simp [Region.wanted, hg], ?_⟩
  obtain ⟨o1, g, e0⟩ := hS _ _ (hsp s hs S eS)
  obtain ⟨A, c, e2, hsl⟩ := hX _ _ (hsp x hx X eX)
  obtain ⟨i0, hi1, hz, hsize, hby⟩ := info_parts hi
  have hfin : ∀ v' w', Own enc k e w0.heap.size v' (l ++ m) w' → w.grownBy w' none → ∃ v, a.put o.dst v' = a.put o.dst v ∧ Below w.heap.size w w' ∧ ∀ d, o.dst = some d → SPS tbl d v w' := fun v' w' ho hgr => ⟨v', rfl, grown_none hgr, fun d' hd' D e3 => by
    rw [hd] at hd'
    injection hd' with hd'
    subst hd'
    exact hD D e3 _ _ ho⟩
  have e1 : a.eval (.tmp s) = .slice (some ⟨g, 0, none⟩) l.length l.length := e0
  have e3 : a.eval (.tmp x) = .slice A m.length c := e2
  rw [e0] at o1
  by_cases hm : m = []
  · subst hm
    have hr : (Builtin.append_ #[t, t] o.type #[.slice (some ⟨g, 0, none⟩) l.length l.length, .slice A 0 c]).run Tryz.prog w = .ok (.slice (some ⟨g, 0, none⟩) l.length l.length) w :=
      run_append_nothing (P := Tryz.prog) w w0.heap.size t o.type e i0 k ht hi1 _ l.length (rowOf enc l) o1 A c
    unfold Oper.wp execOp
    simp only [hop, resolve, invoke, builtin, Sem.run_bind, Sem.run_pure, Result.andThen_ok, List.map_toArray, List.map_cons, List.map_nil, e1, e3, List.length_nil, hr]
    exact hfin _ _ (by rw [List.append_nil]; exact o1) (World.grownBy.refl _ _)
  · obtain ⟨b, off, rfl, _, hcl⟩ := hsl hm
    have hm0 : 0 < m.length := List.length_pos_iff.2 hm
    obtain ⟨v', w', hr, h2, h3⟩ := run_append_full (P := Tryz.prog) w w0.heap.size t o.type e i0 z k bytes ht hi1 hz hsize hby hzs hsz g l.length (rowOf enc l) o1 ⟨b, off, none⟩ m.length c (rowOf enc m) (by rw [rowOf_length hk]) (fun j u hu => by
      rw [show (⟨b, off, none⟩ : Addr).add j = ⟨b, off + j, none⟩ from by unfold Addr.add; split <;> simp_all]
      exact Sl.newsN hk hcl j u hu) (fun u hu => by
      obtain ⟨y, _, hy⟩ := List.mem_flatMap.1 hu
      exact h1 y u hy) hm0 (by simp only [maxLen]; omega) (by
      have h5 : (l.length + m.length) * bytes ≤ 1000000 * 1000 := Nat.mul_le_mul hn hb
      omega) hbw.size
    unfold Oper.wp execOp
    simp only [hop, resolve, invoke, builtin, Sem.run_bind, Sem.run_pure, Result.andThen_ok, List.map_toArray, List.map_cons, List.map_nil, e1, e3, hr]
    refine hfin _ _ ?_ h3
    show w'.ownsRow _ _ _ _ (l ++ m).length (rowOf enc (l ++ m))
    rw [List.length_append, rowOf_append]
    exact h2
/-- An operation that reads a slot ahead of the one that assigns it. -/
theorem opOkM_runI {P : Program} (hd : o.dst = some d) (hg : o.guard = none) (hks : ks.all (fun p => !(waitsB .any ops o p.1) || p.2 == i || edgeB ops p.2 i) = true)
    (h : ∀ (a : Act) (w : World), Below w0.heap.size w0 w → (∀ t, lateB ops i t = true → a.tmps.getD t undef = a0.tmps.getD t undef) → (∀ t, waitsB .any ops o t = true → SPS tbl t (a.tmps.getD t undef) w) → ∃ v, (execOp a.eval o).run P w = .ok (.value v) w ∧ SPS tbl d v w) : OpOkM P ops Q (SPS tbl) ks ms a0 w0 i o := by
  intro a w hbw _ _ hini hsp
  refine ⟨by simp [Region.wanted, hg], ?_⟩
  obtain ⟨v, hr, hv⟩ := h a w hbw hini fun t ht => hsp t ht fun j hj => by
    rw [List.all_eq_true] at hks
    have := hks (t, j) hj
    simp only [ht, Bool.not_true, Bool.false_or, Bool.or_eq_true, beq_iff_eq] at this
    exact this
  unfold Oper.wp
  rw [hr]
  exact ⟨v, rfl, hbw, Nat.le_refl _, fun _ _ _ _ h => h, fun _ _ _ _ _ h => h, fun e he => by rw [hd] at he; injection he with he; subst he; exact hv⟩
end
end Go.Proofs.YtlgoaohklggcdaaGreatDoor
