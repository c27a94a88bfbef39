/- How the arguments of the statements of layer 19 are read: an account, a plan, moves. -/
import Derived.Test.YtkbpdbfldijeeaaDoorMv
import Derived.Test.YtkbpdbfldijeeaaDoorProg
import Derived.ProofKit
import Derived.Lib.SmallJoins
import Derived.Deep.Slices
import Derived.Deep.Fields
import Derived.ChangeSame
import Derived.OpenShut
namespace Go.Proofs.YtkbpdbfldijeeaaDoor
open Go.RowKit Go.ChangeShapes Go.WideShapes Go.Deep Go.Joins

section
variable {H : Type} {enc : TypeId × Value → H} {P : Program} {w : World} {base : Nat} {spare : Nat → Bool} {held : Bool}
theorem open_slice_fields {t e : TypeId} {fs : Array Field} {fuel : Nat} {cs : List Value} {x : DataW H × List MemPlace} (ht : P.underlying t = some (.slice e)) (he : P.underlying e = some (.struct fs))
    (hone : oneCellFields P fs = true) (hC : P.cellsOf e = fs.size) (h : DataW.trod enc P w base spare held fuel t cs = some x) :
    (cs = [.slice none 0 0] ∧ x = (.nil, [])) ∨
    ∃ (a : Addr) (len cap m : Nat) (D : Nat → DataW H) (Pl : Nat → List MemPlace), cs = [.slice (some a) len cap] ∧ base ≤ a.block ∧ len ≤ cap ∧ cap ≤ maxLen ∧ m = (if spare a.block then cap else len) ∧
      x = (.slice ((List.range len).map D) ((List.range (m - len)).map fun j => D (len + j)), MemPlace.row a (m * fs.size) ++ (List.range m).flatMap Pl) ∧
      ∀ i, i < m → ∃ (ys : List (DataW H × List MemPlace)) (n : Nat), D i = .agg (ys.map (·.1)) ∧ Pl i = ys.flatMap (·.2) ∧ ys.length = fs.size ∧
        ∀ (j : Nat) (f : Field), fs[j]? = some f → ∃ (v : Value) (y : DataW H × List MemPlace), w.cell? (a.add (i * fs.size + j)) = some v ∧ ys[j]? = some y ∧ DataW.trod enc P w base spare held n f.type [v] = some y := by
  rcases open_slice ht h with h0 | ⟨a, len, cap, m, n, D, Pl, hcs, hb, hl, hm, hmm, hx, hi⟩
  · exact .inl h0
  · refine .inr ⟨a, len, cap, m, D, Pl, hcs, hb, hl, hm, hmm, by rw [hC] at hx; exact hx, fun i him => ?_⟩
    obtain ⟨cs', hc, ht'⟩ := hi i him
    rw [hC] at hc
    obtain ⟨ys, n', hn', hy, hlen, hyl, hf⟩ := DataW.trod_struct he ht'
    obtain ⟨_, hcl, hat⟩ := World.cells?_some hc
    simp only [Prod.mk.injEq] at hy
    refine ⟨ys, n', hy.1, hy.2, hyl, fun j f hj => ?_⟩
    obtain ⟨ho, hk⟩ := hone_of hone j f hj
    have hjl : j < fs.size := (Array.getElem?_eq_some_iff.1 hj).1
    have hcell := hat j hjl
    have hv : cs'[j]? = some (cs'[j]'(by omega)) := List.getElem?_eq_getElem (by omega)
    have h1 := hf j f hj
    rw [ho, hk] at h1
    have hone' : (cs'.drop j).take 1 = [cs'[j]'(by omega)] := by
      rw [List.drop_eq_getElem_cons (by omega)]
      rfl
    rw [hone'] at h1
    have hys : ys[j]? = some (ys[j]'(by omega)) := List.getElem?_eq_getElem (by omega)
    refine ⟨_, _, ?_, hys, h1.trans hys⟩
    rw [← Go.Deep.add_add, hcell, hv]

/-- A slice of structs of three int64 reads as a list of triples. -/
theorem open_moves {t e a0 a1 a2 : TypeId} {f0 f1 f2 : Field} {fuel : Nat} {cs : List Value} {x : DataW H × List MemPlace} (ht : P.underlying t = some (.slice e)) (he : P.underlying e = some (.struct #[f0, f1, f2]))
    (hone : oneCellFields P #[f0, f1, f2] = true) (hC : P.cellsOf e = 3) (e0 : f0.type = a0) (e1 : f1.type = a1) (e2 : f2.type = a2) (h0 : P.underlying a0 = some (.int .i64)) (h1 : P.underlying a1 = some (.int .i64)) (h2 : P.underlying a2 = some (.int .i64)) (h : DataW.trod enc P w 0 spare held fuel t cs = some x) :
    ∃ (A : Option Addr) (cap : Nat) (L : List Mv), cs = [.slice A L.length cap] ∧ L.length ≤ maxLen ∧ L.length ≤ cap ∧ (∀ p ∈ L, (Lit.int .i64 p.1).wf = true ∧ (Lit.int .i64 p.2.1).wf = true ∧ (Lit.int .i64 p.2.2).wf = true) ∧ Sl encM 3 w w.heap.size A L := by
  rcases open_slice_fields ht he hone hC h with ⟨rfl, _⟩ | ⟨a, len, cap, m, D, Pl, rfl, _, hl, hm, hmm, _, hi⟩
  · exact ⟨none, 0, [], rfl, by simp, by simp, by simp, fun h => absurd rfl h⟩
  · have hlm : len ≤ m := by rw [hmm]; split <;> omega
    have key : ∀ i, i < len → ∃ p : Mv, w.cell? (a.add (i * 3)) = some (.int .i64 p.1) ∧ w.cell? (a.add (i * 3 + 1)) = some (.int .i64 p.2.1) ∧ w.cell? (a.add (i * 3 + 2)) = some (.int .i64 p.2.2) ∧ (Lit.int .i64 p.1).wf = true ∧ (Lit.int .i64 p.2.1).wf = true ∧ (Lit.int .i64 p.2.2).wf = true := by
      intro i hil
      obtain ⟨ys, n, _, _, _, hf⟩ := hi i (by omega)
      obtain ⟨v0, y0, c0, _, t0⟩ := hf 0 f0 rfl
      obtain ⟨v1, y1, c1, _, t1⟩ := hf 1 f1 rfl
      obtain ⟨v2, y2, c2, _, t2⟩ := hf 2 f2 rfl
      rw [e0] at t0
      rw [e1] at t1
      rw [e2] at t2
      obtain ⟨n0, r0, _, w0⟩ := DataW.trod_int h0 t0
      obtain ⟨n1, r1, _, w1⟩ := DataW.trod_int h1 t1
      obtain ⟨n2, r2, _, w2⟩ := DataW.trod_int h2 t2
      simp only [List.cons.injEq, and_true] at r0 r1 r2
      subst r0; subst r1; subst r2
      exact ⟨(n0, n1, n2), by simpa using c0, by simpa using c1, by simpa using c2, w0, w1, w2⟩
    obtain ⟨f, hf⟩ := Go.Deep.choose_lt (α := Mv) key
    refine ⟨some a, cap, (List.range len).map f, by simp, by simp; omega, by simpa using hl, ?_, ?_⟩
    · intro p hp
      obtain ⟨i, hi', rfl⟩ := List.mem_map.1 hp
      exact (hf i (List.mem_range.1 hi')).2.2.2
    · intro hne
      have h0' : 0 < len := by
        rcases Nat.eq_zero_or_pos len with rfl | h
        · simp at hne
        · exact h
      have c0 := (hf 0 h0').1
      obtain ⟨b, off, spot⟩ := a
      have hspot : spot = none := by simpa [Addr.add] using World.cell?_spot c0
      subst hspot
      refine ⟨b, off, rfl, by simpa [Addr.add] using World.block_lt_of_cell? w _ c0, fun i x hx j u hu => ?_⟩
      have hil : i < len := by have := (List.getElem?_eq_some_iff.1 hx).1; simpa using this
      have hxx : x = f i := by simpa [hil] using hx.symm
      subst hxx
      have hj : j < 3 := by
        have := (List.getElem?_eq_some_iff.1 hu).1
        simpa [encM] using this
      have hj2 : j = 0 ∨ j = 1 ∨ j = 2 := by omega
      rcases hj2 with rfl | rfl | rfl
      · have : u = .int .i64 (f i).1 := by simpa [encM] using hu.symm
        subst this
        have c := (hf i hil).1
        rw [add_plain] at c
        simpa using c
      · have : u = .int .i64 (f i).2.1 := by simpa [encM] using hu.symm
        subst this
        have c := (hf i hil).2.1
        rw [add_plain] at c
        simpa [Nat.add_assoc] using c
      · have : u = .int .i64 (f i).2.2 := by simpa [encM] using hu.symm
        subst this
        have c := (hf i hil).2.2.1
        rw [add_plain] at c
        simpa [Nat.add_assoc] using c
end

theorem wf_i64 {n : Int} (h : (Lit.int .i64 n).wf = true) : -9223372036854775808 ≤ n ∧ n ≤ 9223372036854775807 := bounds_i64 h

/-- An account that came in. -/
theorem open_acc {H : Type} {enc : TypeId × Value → H} {w : World} {spare : Nat → Bool} {held : Bool} {r : Reach} {b0 : Nat} {v : Value} {d : DataW H} {p : List MemPlace}
    (hv : Value.okWide Tryd.prog w r b0 28 v) (h : DataW.Trod enc Tryd.prog w 0 spare held 28 v d p) :
    ∃ g t e l : Int, v = .agg #[.int .i64 g, .int .i64 t, .int .i64 e, .int .i64 l] ∧ (Lit.int .i64 g).wf = true ∧ (Lit.int .i64 t).wf = true ∧ (Lit.int .i64 e).wf = true ∧ (Lit.int .i64 l).wf = true := by
  obtain ⟨c0, c1, c2, c3, y0, y1, y2, y3, m, rfl, _, _, t0, t1, t2, t3⟩ := open_agg4 Tryd.underlying28 (by kernel_rfl) (by kernel_rfl) hv h
  obtain ⟨n0, r0, _, w0⟩ := DataW.trod_int Tryd.underlying3 t0
  obtain ⟨n1, r1, _, w1⟩ := DataW.trod_int Tryd.underlying3 t1
  obtain ⟨n2, r2, _, w2⟩ := DataW.trod_int Tryd.underlying3 t2
  obtain ⟨n3, r3, _, w3⟩ := DataW.trod_int Tryd.underlying3 t3
  simp only [List.cons.injEq, and_true] at r0 r1 r2 r3
  subst r0; subst r1; subst r2; subst r3
  exact ⟨n0, n1, n2, n3, rfl, w0, w1, w2, w3⟩
/-- A plan that came in. -/
theorem open_plan {H : Type} {enc : TypeId × Value → H} {w : World} {spare : Nat → Bool} {held : Bool} {r : Reach} {b0 : Nat} {v : Value} {d : DataW H} {p : List MemPlace}
    (hv : Value.okWide Tryd.prog w r b0 23 v) (h : DataW.Trod enc Tryd.prog w 0 spare held 23 v d p) :
    ∃ yr ca ex : Int, v = .agg #[.int .i64 yr, .int .i64 ca, .int .i64 ex] ∧ (Lit.int .i64 yr).wf = true ∧ (Lit.int .i64 ca).wf = true ∧ (Lit.int .i64 ex).wf = true := by
  obtain ⟨c0, c1, c2, y0, y1, y2, m, rfl, _, _, t0, t1, t2⟩ := open_agg3 Tryd.underlying23 (by kernel_rfl) (by kernel_rfl) hv h
  obtain ⟨n0, r0, _, w0⟩ := DataW.trod_int Tryd.underlying3 t0
  obtain ⟨n1, r1, _, w1⟩ := DataW.trod_int Tryd.underlying3 t1
  obtain ⟨n2, r2, _, w2⟩ := DataW.trod_int Tryd.underlying3 t2
  simp only [List.cons.injEq, and_true] at r0 r1 r2
  subst r0; subst r1; subst r2
  exact ⟨n0, n1, n2, rfl, w0, w1, w2⟩
/-- Moves that came in. -/
theorem open_mvs {H : Type} {enc : TypeId × Value → H} {w : World} {spare : Nat → Bool} {held : Bool} {r : Reach} {b0 : Nat} {v : Value} {d : DataW H} {p : List MemPlace}
    (hv : Value.okWide Tryd.prog w r b0 25 v) (h : DataW.Trod enc Tryd.prog w 0 spare held 25 v d p) :
    ∃ (A : Option Addr) (cap : Nat) (L : List Mv), v = .slice A L.length cap ∧ L.length ≤ maxLen ∧ L.length ≤ cap ∧ (∀ p ∈ L, (Lit.int .i64 p.1).wf = true ∧ (Lit.int .i64 p.2.1).wf = true ∧ (Lit.int .i64 p.2.2).wf = true) ∧ Sl encM 3 w w.heap.size A L := by
  obtain ⟨a0, len, cap, rfl⟩ := okWide_slice Tryd.underlying25 hv
  obtain ⟨fuel, hf⟩ := h
  obtain ⟨A, cap', L, e, hl, hlc, hw, hs⟩ := open_moves Tryd.underlying25 Tryd.underlying42 (by kernel_rfl) (by kernel_rfl) rfl rfl rfl Tryd.underlying24 Tryd.underlying3 Tryd.underlying3 hf
  simp [Value.cells] at e
  obtain ⟨rfl, rfl, rfl⟩ := e
  exact ⟨_, _, L, rfl, hl, hlc, hw, hs⟩
end Go.Proofs.YtkbpdbfldijeeaaDoor
