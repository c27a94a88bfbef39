/- How the arguments of the statements of layer 9 are read: facts, a fact. -/
import Derived.Test.YtmngghglcgmkeaaGreatDoorChgd
import Derived.ProofKit
import Derived.Lib.SmallJoins
import Derived.Deep.Slices
import Derived.Deep.Fields
import Derived.ChangeSame
import Derived.OpenShut
namespace Go.Proofs.YtmngghglcgmkeaaGreatDoor
open Go.RowKit Go.ChangeShapes Go.WideShapes Go.Deep Go.Joins

/-- Its numbers are of their kinds. -/
structure FitW (f : Fa) : Prop where
  id : 0 ≤ f.id ∧ f.id ≤ 4294967295
  pe : 0 ≤ f.pe ∧ f.pe ≤ 4294967295
  ki : -9223372036854775808 ≤ f.ki ∧ f.ki ≤ 9223372036854775807
  fr : -9223372036854775808 ≤ f.fr ∧ f.fr ≤ 9223372036854775807
  tO : -9223372036854775808 ≤ f.to ∧ f.to ≤ 9223372036854775807
  nu : -9223372036854775808 ≤ f.nu ∧ f.nu ≤ 9223372036854775807
  cO : f.co.size ≤ 9223372036854775807
  tX : f.tx.size ≤ 9223372036854775807
theorem fit_short {f : Fa} (h : FitW f) (hs : shortF f = true) : Fit f := by
  unfold shortF at hs
  rw [decide_eq_true_eq] at hs
  exact ⟨h.id, h.pe, h.ki, h.fr, h.tO, h.nu, by omega, by omega⟩
theorem short_all {L : List Fa} (h : shortB L = true) (hw : ∀ f ∈ L, FitW f) : (∀ f ∈ L, Fit f) ∧ L.length ≤ 30 := by
  unfold shortB at h
  rw [Bool.and_eq_true, List.all_eq_true, decide_eq_true_eq] at h
  exact ⟨fun f hf => fit_short (hw f hf) (h.1 f hf), by omega⟩
theorem wf_i64 {n : Int} (h : (Lit.int .i64 n).wf = true) : -9223372036854775808 ≤ n ∧ n ≤ 9223372036854775807 := bounds_i64 h
theorem wf_u32 {n : Int} (h : (Lit.int .u32 n).wf = true) : 0 ≤ n ∧ n ≤ 4294967295 := by
  have e1 : IntKind.u32.min = 0 := rfl
  have e2 : IntKind.u32.max = 4294967295 := rfl
  simp [Lit.wf, e1, e2] at h
  omega

section
variable {H : Type} {enc : TypeId × Value → H} {P : Program} {w : World} {base : Nat} {spare : Nat → Bool} {held : Bool}
theorem open_slice_fields {t e : TypeId} {fs : Array Field} {fuel : Nat} {cs : List Value} {x : DataW H × List MemPlace} (ht : P.underlying t = some (.slice e)) (he : P.underlying e = some (.struct fs))
    (hone : oneCellFields P fs = true) (hC : P.cellsOf e = fs.size) (h : DataW.trod enc P w base spare held fuel t cs = some x) :
    (cs = [.slice none 0 0] ∧ x = (.nil, [])) ∨
    ∃ (a : Addr) (len cap m : Nat) (D : Nat → DataW H) (Pl : Nat → List MemPlace), cs = [.slice (some a) len cap] ∧ base ≤ a.block ∧ len ≤ cap ∧ cap ≤ maxLen ∧ m = (if spare a.block then cap else len) ∧
      x = (.slice ((List.range len).map D) ((List.range (m - len)).map fun j => D (len + j)), MemPlace.row a (m * fs.size) ++ (List.range m).flatMap Pl) ∧
      ∀ i, i < m → ∃ (ys : List (DataW H × List MemPlace)) (n : Nat), D i = .agg (ys.map (·.1)) ∧ Pl i = ys.flatMap (·.2) ∧ ys.length = fs.size ∧
        ∀ (j : Nat) (f : Field), fs[j]? = some f → ∃ (v : Value) (y : DataW H × List MemPlace), w.cell? (a.add (i * fs.size + j)) = some v ∧ ys[j]? = some y ∧ DataW.trod enc P w base spare held n f.type [v] = some y := by
  rcases open_slice ht h with h0 | ⟨a, len, cap, m, n, D, Pl, hcs, hb, hl, hm, hmm, hx, hi⟩
  · exact .inl h0
  · refine .inr ⟨a, len, cap, m, D, Pl, hcs, hb, hl, hm, hmm, by rw [hC] at hx; exact hx, fun i him => ?_⟩
    obtain ⟨cs', hc, ht'⟩ := hi i him
    rw [hC] at hc
    obtain ⟨ys, n', hn', hy, hlen, hyl, hf⟩ := DataW.trod_struct he ht'
    obtain ⟨_, hcl, hat⟩ := World.cells?_some hc
    simp only [Prod.mk.injEq] at hy
    refine ⟨ys, n', hy.1, hy.2, hyl, fun j f hj => ?_⟩
    obtain ⟨ho, hk⟩ := hone_of hone j f hj
    have hjl : j < fs.size := (Array.getElem?_eq_some_iff.1 hj).1
    have hcell := hat j hjl
    have hv : cs'[j]? = some (cs'[j]'(by omega)) := List.getElem?_eq_getElem (by omega)
    have h1 := hf j f hj
    rw [ho, hk] at h1
    have hone' : (cs'.drop j).take 1 = [cs'[j]'(by omega)] := by
      rw [List.drop_eq_getElem_cons (by omega)]
      rfl
    rw [hone'] at h1
    have hys : ys[j]? = some (ys[j]'(by omega)) := List.getElem?_eq_getElem (by omega)
    refine ⟨_, _, ?_, hys, h1.trans hys⟩
    rw [← Go.Deep.add_add, hcell, hv]

end

section
variable {H : Type} {enc : TypeId × Value → H} {w : World} {spare : Nat → Bool} {held : Bool}
/-- A fact's eight cells, read. -/
theorem fact_cells {n : Nat} {v0 v1 v2 v3 v4 v5 v6 v7 : Value} {y0 y1 y2 y3 y4 y5 y6 y7 : DataW H × List MemPlace} {m0 m1 m2 m3 m4 m5 m6 m7 : Nat}
    (t0 : DataW.trod enc Tryz.prog w 0 spare held m0 23 [v0] = some y0) (t1 : DataW.trod enc Tryz.prog w 0 spare held m1 23 [v1] = some y1) (t2 : DataW.trod enc Tryz.prog w 0 spare held m2 3 [v2] = some y2) (t3 : DataW.trod enc Tryz.prog w 0 spare held m3 24 [v3] = some y3)
    (t4 : DataW.trod enc Tryz.prog w 0 spare held m4 24 [v4] = some y4) (t5 : DataW.trod enc Tryz.prog w 0 spare held m5 9 [v5] = some y5) (t6 : DataW.trod enc Tryz.prog w 0 spare held m6 2 [v6] = some y6) (t7 : DataW.trod enc Tryz.prog w 0 spare held m7 9 [v7] = some y7) (_hn : n = n) :
    ∃ f : Fa, FitW f ∧ v0 = .int .u32 f.id ∧ v1 = .int .u32 f.pe ∧ v2 = .int .i64 f.ki ∧ v3 = .int .i64 f.fr ∧ v4 = .int .i64 f.to ∧ v5 = .string f.co ∧ v6 = .int .i64 f.nu ∧ v7 = .string f.tx := by
  obtain ⟨n0, r0, _, w0⟩ := DataW.trod_int Tryz.underlying23 t0
  obtain ⟨n1, r1, _, w1⟩ := DataW.trod_int Tryz.underlying23 t1
  obtain ⟨n2, r2, _, w2⟩ := DataW.trod_int Tryz.underlying3 t2
  obtain ⟨n3, r3, _, w3⟩ := DataW.trod_int Tryz.underlying24 t3
  obtain ⟨n4, r4, _, w4⟩ := DataW.trod_int Tryz.underlying24 t4
  obtain ⟨n5, r5, _, w5⟩ := DataW.trod_string Tryz.underlying9 t5
  obtain ⟨n6, r6, _, w6⟩ := DataW.trod_int Tryz.underlying2 t6
  obtain ⟨n7, r7, _, w7⟩ := DataW.trod_string Tryz.underlying9 t7
  simp only [List.cons.injEq, and_true] at r0 r1 r2 r3 r4 r5 r6 r7
  exact ⟨⟨n0, n1, n2, n3, n4, n5, n6, n7⟩, ⟨wf_u32 w0, wf_u32 w1, wf_i64 w2, wf_i64 w3, wf_i64 w4, wf_i64 w6, w5, w7⟩, r0, r1, r2, r3, r4, r5, r6, r7⟩
theorem fieldsF : ∃ f0 f1 f2 f3 f4 f5 f6 f7 : Field, Tryz.prog.underlying 26 = some (.struct #[f0, f1, f2, f3, f4, f5, f6, f7]) ∧ oneCellFields Tryz.prog #[f0, f1, f2, f3, f4, f5, f6, f7] = true ∧
    f0.type = 23 ∧ f1.type = 23 ∧ f2.type = 3 ∧ f3.type = 24 ∧ f4.type = 24 ∧ f5.type = 9 ∧ f6.type = 2 ∧ f7.type = 9 :=
  ⟨_, _, _, _, _, _, _, _, Tryz.underlying26, by kernel_rfl, rfl, rfl, rfl, rfl, rfl, rfl, rfl, rfl⟩
instance faNonempty : Inhabited Fa := ⟨canF 0⟩
set_option maxRecDepth 100000 in
/-- Facts that came in. -/
theorem open_facts {r : Reach} {b0 : Nat} {v : Value} {d : DataW H} {p : List MemPlace}
    (hv : Value.okWide Tryz.prog w r b0 22 v) (h : DataW.Trod enc Tryz.prog w 0 spare held 22 v d p) :
    ∃ (A : Option Addr) (cap : Nat) (L : List Fa), v = .slice A L.length cap ∧ L.length ≤ maxLen ∧ L.length ≤ cap ∧ (∀ f ∈ L, FitW f) ∧ SlF w A L := by
  obtain ⟨a0, len, cap, rfl⟩ := okWide_slice Tryz.underlying22 hv
  obtain ⟨fuel, hf⟩ := h
  obtain ⟨f0, f1, f2, f3, f4, f5, f6, f7, he, hone, e0, e1, e2, e3, e4, e5, e6, e7⟩ := fieldsF
  rcases open_slice_fields Tryz.underlying22 he hone (by kernel_rfl) hf with ⟨hc, _⟩ | ⟨a, len', cap', m, D, Pl, hc, _, hl, hm, hmm, _, hi⟩
  · simp [Value.cells] at hc
    obtain ⟨rfl, rfl, rfl⟩ := hc
    exact ⟨none, 0, [], rfl, by simp, by simp, by simp, fun h => absurd rfl h⟩
  · simp [Value.cells] at hc
    obtain ⟨rfl, rfl, rfl⟩ := hc
    have hlm : len ≤ m := by rw [hmm]; split <;> omega
    have key : ∀ i, i < len → ∃ f : Fa, FitW f ∧ ∀ j u, (encF f)[j]? = some u → w.cell? (a.add (i * 8 + j)) = some u := by
      intro i hil
      obtain ⟨ys, n, _, _, _, hf⟩ := hi i (by omega)
      obtain ⟨v0, y0, c0, _, t0⟩ := hf 0 f0 rfl
      obtain ⟨v1, y1, c1, _, t1⟩ := hf 1 f1 rfl
      obtain ⟨v2, y2, c2, _, t2⟩ := hf 2 f2 rfl
      obtain ⟨v3, y3, c3, _, t3⟩ := hf 3 f3 rfl
      obtain ⟨v4, y4, c4, _, t4⟩ := hf 4 f4 rfl
      obtain ⟨v5, y5, c5, _, t5⟩ := hf 5 f5 rfl
      obtain ⟨v6, y6, c6, _, t6⟩ := hf 6 f6 rfl
      obtain ⟨v7, y7, c7, _, t7⟩ := hf 7 f7 rfl
      rw [e0] at t0
      rw [e1] at t1
      rw [e2] at t2
      rw [e3] at t3
      rw [e4] at t4
      rw [e5] at t5
      rw [e6] at t6
      rw [e7] at t7
      obtain ⟨f, hfit, rfl, rfl, rfl, rfl, rfl, rfl, rfl, rfl⟩ := fact_cells (n := 0) t0 t1 t2 t3 t4 t5 t6 t7 rfl
      refine ⟨f, hfit, fun j u hu => ?_⟩
      have hj : j < 8 := by have := (List.getElem?_eq_some_iff.1 hu).1; rwa [encF_len] at this
      have hj2 : j = 0 ∨ j = 1 ∨ j = 2 ∨ j = 3 ∨ j = 4 ∨ j = 5 ∨ j = 6 ∨ j = 7 := by omega
      rcases hj2 with rfl | rfl | rfl | rfl | rfl | rfl | rfl | rfl
      · cases hu; exact c0
      · cases hu; exact c1
      · cases hu; exact c2
      · cases hu; exact c3
      · cases hu; exact c4
      · cases hu; exact c5
      · cases hu; exact c6
      · cases hu; exact c7
    obtain ⟨f, hf⟩ := Go.Deep.choose_lt (α := Fa) key
    refine ⟨some a, cap, (List.range len).map f, by simp, by simp; omega, by simpa using hl, ?_, ?_⟩
    · intro x hx
      obtain ⟨i, hi', rfl⟩ := List.mem_map.1 hx
      exact (hf i (List.mem_range.1 hi')).1
    · intro hne
      have h0' : 0 < len := by
        rcases Nat.eq_zero_or_pos len with rfl | h
        · simp at hne
        · exact h
      have c0 := (hf 0 h0').2 0 _ rfl
      obtain ⟨b, off, spot⟩ := a
      have hspot : spot = none := by simpa [Addr.add] using World.cell?_spot c0
      subst hspot
      refine ⟨b, off, rfl, by simpa [Addr.add] using World.block_lt_of_cell? w _ c0, fun i x hx j u hu => ?_⟩
      have hil : i < len := by have := (List.getElem?_eq_some_iff.1 hx).1; simpa using this
      have hxx : x = f i := by simpa [hil] using hx.symm
      subst hxx
      have c := (hf i hil).2 j u hu
      rw [add_plain] at c
      simpa [Nat.add_assoc] using c
set_option maxRecDepth 100000 in
/-- A fact that came in. -/
theorem open_fact {r : Reach} {b0 : Nat} {v : Value} {d : DataW H} {p : List MemPlace}
    (hv : Value.okWide Tryz.prog w r b0 26 v) (h : DataW.Trod enc Tryz.prog w 0 spare held 26 v d p) :
    ∃ f : Fa, v = .agg (FA f) ∧ FitW f := by
  obtain ⟨f0, f1, f2, f3, f4, f5, f6, f7, he, hone, e0, e1, e2, e3, e4, e5, e6, e7⟩ := fieldsF
  obtain ⟨cs, rfl, hsz⟩ := okWide_struct he hv
  have hC : Tryz.prog.cellsOf 26 = 8 := by kernel_rfl
  obtain ⟨fuel, hf⟩ := h
  obtain ⟨ys, n, _, _, _, hyl, hff⟩ := DataW.trod_struct he hf
  have hsz8 : cs.size = 8 := hsz.trans hC
  obtain ⟨v0, v1, v2, v3, v4, v5, v6, v7, hcs⟩ : ∃ v0 v1 v2 v3 v4 v5 v6 v7, cs = #[v0, v1, v2, v3, v4, v5, v6, v7] := by
    obtain ⟨l⟩ := cs
    have hl : l.length = 8 := by simpa using hsz8
    match l, hl with
    | [v0, v1, v2, v3, v4, v5, v6, v7], _ => exact ⟨v0, v1, v2, v3, v4, v5, v6, v7, rfl⟩
  subst hcs
  have key : ∀ (j : Nat) (g : Field) (u : Value), (#[f0, f1, f2, f3, f4, f5, f6, f7] : Array Field)[j]? = some g → (#[v0, v1, v2, v3, v4, v5, v6, v7] : Array Value)[j]? = some u → ∃ m y, DataW.trod enc Tryz.prog w 0 spare held m g.type [u] = some y := by
    intro j g u hg hu
    obtain ⟨ho, hk⟩ := hone_of hone j g hg
    have h1 := hff j g hg
    rw [ho, hk] at h1
    have hjl : j < 8 := (Array.getElem?_eq_some_iff.1 hg).1
    have h2 : ((Value.agg #[v0, v1, v2, v3, v4, v5, v6, v7]).cells.toList.drop j).take 1 = [u] := by
      have hj2 : j = 0 ∨ j = 1 ∨ j = 2 ∨ j = 3 ∨ j = 4 ∨ j = 5 ∨ j = 6 ∨ j = 7 := by omega
      rcases hj2 with rfl | rfl | rfl | rfl | rfl | rfl | rfl | rfl <;> (cases hu; rfl)
    rw [h2] at h1
    have hys : ys[j]? = some (ys[j]'(by have : (#[f0, f1, f2, f3, f4, f5, f6, f7] : Array Field).size = 8 := rfl; omega)) := List.getElem?_eq_getElem _
    exact ⟨_, _, h1.trans hys⟩
  obtain ⟨m0, y0, t0⟩ := key 0 f0 v0 rfl rfl
  obtain ⟨m1, y1, t1⟩ := key 1 f1 v1 rfl rfl
  obtain ⟨m2, y2, t2⟩ := key 2 f2 v2 rfl rfl
  obtain ⟨m3, y3, t3⟩ := key 3 f3 v3 rfl rfl
  obtain ⟨m4, y4, t4⟩ := key 4 f4 v4 rfl rfl
  obtain ⟨m5, y5, t5⟩ := key 5 f5 v5 rfl rfl
  obtain ⟨m6, y6, t6⟩ := key 6 f6 v6 rfl rfl
  obtain ⟨m7, y7, t7⟩ := key 7 f7 v7 rfl rfl
  rw [e0] at t0
  rw [e1] at t1
  rw [e2] at t2
  rw [e3] at t3
  rw [e4] at t4
  rw [e5] at t5
  rw [e6] at t6
  rw [e7] at t7
  obtain ⟨f, hfit, rfl, rfl, rfl, rfl, rfl, rfl, rfl, rfl⟩ := fact_cells (n := 0) t0 t1 t2 t3 t4 t5 t6 t7 rfl
  exact ⟨f, rfl, hfit⟩
end
end Go.Proofs.YtmngghglcgmkeaaGreatDoor
