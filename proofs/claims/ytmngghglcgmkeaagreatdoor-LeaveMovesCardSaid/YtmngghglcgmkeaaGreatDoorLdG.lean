/- Openers of a list of absences, of a week's pattern. -/
import Derived.Test.YtmngghglcgmkeaaGreatDoorLdF
import Derived.Test.YtmngghglcgmkeaaGreatDoorAbw
namespace Go.Proofs.YtmngghglcgmkeaaGreatDoor
open Go.ChangeShapes Go.WideShapes Go.ChangeAt Go.RowKit Go.Deep

section
variable {H : Type} {enc : TypeId × Value → H} {w : World} {spare : Nat → Bool} {held : Bool}
abbrev I64 (n : Int) : Prop := -9223372036854775808 ≤ n ∧ n ≤ 9223372036854775807
theorem some_at {α : Type} {l : List α} {i n : Nat} (h : l.length = n) (hi : i < n) : ∃ x, l[i]? = some x := ⟨_, List.getElem?_eq_getElem (by omega)⟩
set_option maxRecDepth 100000 in
theorem trod_span {fuel : Nat} {cs : List Value} {y : DataW H × List MemPlace} (h : DataW.trod enc Tryz.prog w 0 spare held fuel 28 cs = some y) : ∃ a b : Int, cs = [.int .i64 a, .int .i64 b] ∧ I64 a ∧ I64 b := by
  obtain ⟨f0, f1, he, hone, e0, e1⟩ := fieldsSp
  obtain ⟨xs, n, _, _, hl, hxl, hf⟩ := DataW.trod_struct he h
  have hC : Tryz.prog.cellsOf 28 = 2 := by kernel_rfl
  rw [hC] at hl
  match cs, hl with
  | [c0, c1], _ =>
    have hxl2 : xs.length = 2 := hxl
    obtain ⟨x0, q0⟩ := some_at hxl2 (i := 0) (by omega)
    obtain ⟨x1, q1⟩ := some_at hxl2 (i := 1) (by omega)
    have h0 := hf 0 f0 rfl
    have h1 := hf 1 f1 rfl
    obtain ⟨o0, k0⟩ := hone_of hone 0 f0 rfl
    obtain ⟨o1, k1⟩ := hone_of hone 1 f1 rfl
    rw [o0, k0, e0, q0] at h0
    rw [o1, k1, e1, q1] at h1
    obtain ⟨a, r0, _, w0⟩ := DataW.trod_int Tryz.underlying24 h0
    obtain ⟨b, r1, _, w1⟩ := DataW.trod_int Tryz.underlying24 h1
    have z0 : c0 = .int .i64 a := by simpa using r0
    have z1 : c1 = .int .i64 b := by simpa using r1
    exact ⟨a, b, by rw [z0, z1], wf_i64 w0, wf_i64 w1⟩
theorem fieldsAb : ∃ f0 f1 f2 f3 : Field, Tryz.prog.underlying 48 = some (.struct #[f0, f1, f2, f3]) ∧ (f0.type = 28 ∧ f0.offset = 0) ∧ (f1.type = 3 ∧ f1.offset = 2) ∧ (f2.type = 46 ∧ f2.offset = 3) ∧ (f3.type = 3 ∧ f3.offset = 4) :=
  ⟨_, _, _, _, Tryz.underlying48, ⟨rfl, rfl⟩, ⟨rfl, rfl⟩, ⟨rfl, rfl⟩, rfl, rfl⟩
set_option maxRecDepth 100000 in
theorem trod_abs {fuel : Nat} {cs : List Value} {y : DataW H × List MemPlace} (h : DataW.trod enc Tryz.prog w 0 spare held fuel 48 cs = some y) : ∃ x : Ab, cs = encAb x ∧ I64 x.fr ∧ I64 x.to ∧ I64 x.ki ∧ I64 x.pa ∧ I64 x.nn := by
  obtain ⟨f0, f1, f2, f3, he, ⟨t0, o0⟩, ⟨t1, o1⟩, ⟨t2, o2⟩, ⟨t3, o3⟩⟩ := fieldsAb
  obtain ⟨xs, n, _, _, hl, hxl, hf⟩ := DataW.trod_struct he h
  have hC : Tryz.prog.cellsOf 48 = 5 := by kernel_rfl
  have hS : Tryz.prog.cellsOf 28 = 2 := by kernel_rfl
  have hI : Tryz.prog.cellsOf 3 = 1 := by kernel_rfl
  have hR : Tryz.prog.cellsOf 46 = 1 := by kernel_rfl
  rw [hC] at hl
  match cs, hl with
  | [c0, c1, c2, c3, c4], _ =>
    have hxl2 : xs.length = 4 := hxl
    obtain ⟨x0, q0⟩ := some_at hxl2 (i := 0) (by omega)
    obtain ⟨x1, q1⟩ := some_at hxl2 (i := 1) (by omega)
    obtain ⟨x2, q2⟩ := some_at hxl2 (i := 2) (by omega)
    obtain ⟨x3, q3⟩ := some_at hxl2 (i := 3) (by omega)
    have h0 := hf 0 f0 rfl
    have h1 := hf 1 f1 rfl
    have h2 := hf 2 f2 rfl
    have h3 := hf 3 f3 rfl
    rw [o0, t0, q0, hS] at h0
    rw [o1, t1, q1, hI] at h1
    rw [o2, t2, q2, hR] at h2
    rw [o3, t3, q3, hI] at h3
    obtain ⟨a, b, rs, wa, wb⟩ := trod_span h0
    obtain ⟨k, r1, _, w1⟩ := DataW.trod_int Tryz.underlying3 h1
    obtain ⟨p, r2, _, w2⟩ := DataW.trod_int Tryz.underlying46 h2
    obtain ⟨m, r3, _, w3⟩ := DataW.trod_int Tryz.underlying3 h3
    have z0 : c0 = .int .i64 a ∧ c1 = .int .i64 b := by simpa using rs
    have z1 : c2 = .int .i64 k := by simpa using r1
    have z2 : c3 = .int .i64 p := by simpa using r2
    have z3 : c4 = .int .i64 m := by simpa using r3
    exact ⟨⟨a, b, k, p, m⟩, by rw [z0.1, z0.2, z1, z2, z3]; rfl, wa, wb, wf_i64 w1, wf_i64 w2, wf_i64 w3⟩
instance : Inhabited Ab := ⟨⟨0, 0, 0, 0, 0⟩⟩
set_option maxRecDepth 100000 in
/-- A slice, opened: what its elements read as. -/
theorem open_rows {α : Type} [Inhabited α] {cells : α → List Value} {k : Nat} {ok : α → Prop} {t e : TypeId} {fuel : Nat} {a0 : Option Addr} {len cap : Nat} {x : DataW H × List MemPlace} (hk : ∀ y, (cells y).length = k) (hk0 : 0 < k)
    (ht : Tryz.prog.underlying t = some (.slice e)) (hC : Tryz.prog.cellsOf e = k) (hE : ∀ fuel cs y, DataW.trod enc Tryz.prog w 0 spare held fuel e cs = some y → ∃ z, cs = cells z ∧ ok z)
    (hf : DataW.trod enc Tryz.prog w 0 spare held fuel t [.slice a0 len cap] = some x) :
    ∃ L : List α, L.length = len ∧ len ≤ maxLen ∧ (∀ z ∈ L, ok z) ∧ Sl cells k w w.heap.size a0 L := by
  rcases open_slice ht hf with ⟨hc, _⟩ | ⟨a, len', cap', m, n, D, Pl, hc, _, hl, hm, hmm, _, hi⟩
  · simp at hc
    obtain ⟨rfl, rfl, rfl⟩ := hc
    exact ⟨[], rfl, by simp, fun _ h => absurd h (List.not_mem_nil), fun h => absurd rfl h⟩
  · simp at hc
    obtain ⟨rfl, rfl, rfl⟩ := hc
    have hlm : len ≤ m := by rw [hmm]; split <;> omega
    have key : ∀ i, i < len → ∃ z : α, ok z ∧ ∀ j u, (cells z)[j]? = some u → w.cell? (a.add (i * k + j)) = some u := by
      intro i hil
      obtain ⟨cs', hcs, htr⟩ := hi i (by omega)
      obtain ⟨z, rfl, hz⟩ := hE _ _ _ htr
      rw [hC] at hcs
      obtain ⟨_, hcl, hat⟩ := World.cells?_some hcs
      refine ⟨z, hz, fun j u hu => ?_⟩
      have hj : j < k := by have := (List.getElem?_eq_some_iff.1 hu).1; rwa [hk] at this
      have h1 := hat j hj
      rw [hu] at h1
      rw [← h1, ← Go.Deep.add_add]
    obtain ⟨f, hf⟩ := Go.Deep.choose_lt (α := α) key
    refine ⟨(List.range len).map f, by simp, by omega, ?_, ?_⟩
    · intro x hx
      obtain ⟨i, hi', rfl⟩ := List.mem_map.1 hx
      exact (hf i (List.mem_range.1 hi')).1
    · intro hne
      have h0' : 0 < len := by
        rcases Nat.eq_zero_or_pos len with rfl | h
        · simp at hne
        · exact h
      obtain ⟨u0, hu0⟩ : ∃ u, (cells (f 0))[0]? = some u := ⟨_, List.getElem?_eq_getElem (by rw [hk]; exact hk0)⟩
      have c0 := (hf 0 h0').2 0 _ hu0
      obtain ⟨b, off, spot⟩ := a
      have hspot : spot = none := by simpa [Addr.add] using World.cell?_spot c0
      subst hspot
      refine ⟨b, off, rfl, by simpa [Addr.add] using World.block_lt_of_cell? w _ c0, fun i x hx j u hu => ?_⟩
      have hil : i < len := by have := (List.getElem?_eq_some_iff.1 hx).1; simpa using this
      have hxx : x = f i := by simpa [hil] using hx.symm
      subst hxx
      have c := (hf i hil).2 j u hu
      rw [add_plain] at c
      simpa [Nat.add_assoc] using c
def okAb (x : Ab) : Prop := I64 x.fr ∧ I64 x.to ∧ I64 x.ki ∧ I64 x.pa ∧ I64 x.nn
set_option maxRecDepth 100000 in
theorem open_absl {r : Reach} {b0 : Nat} {v : Value} {d : DataW H} {p : List MemPlace} (hv : Value.okWide Tryz.prog w r b0 40 v) (h : DataW.Trod enc Tryz.prog w 0 spare held 40 v d p) :
    ∃ (A : Option Addr) (cap : Nat) (L : List Ab), v = .slice A L.length cap ∧ L.length ≤ maxLen ∧ (∀ x ∈ L, okAb x) ∧ Sl encAb 5 w w.heap.size A L := by
  obtain ⟨a0, len, cap, rfl⟩ := okWide_slice Tryz.underlying40 hv
  obtain ⟨fuel, hf⟩ := h
  obtain ⟨L, rfl, h2, h3, h4⟩ := open_rows (ok := okAb) encAb_len (by omega) Tryz.underlying40 (by kernel_rfl) (fun fuel cs y hy => trod_abs hy) hf
  exact ⟨a0, cap, L, rfl, h2, h3, h4⟩
set_option maxRecDepth 100000 in
theorem open_days {fuel : Nat} {cs : List Value} {x : DataW H × List MemPlace} (hs : ∃ A n c, cs = [.slice A n c]) (h : DataW.trod enc Tryz.prog w 0 spare held fuel 56 cs = some x) :
    ∃ (A : Option Addr) (cap : Nat) (D : List Int), cs = [.slice A D.length cap] ∧ D.length ≤ maxLen ∧ (∀ d ∈ D, I64 d) ∧ Sl encDd 1 w w.heap.size A D := by
  obtain ⟨a0, len, cap, rfl⟩ := hs
  obtain ⟨L, rfl, h2, h3, h4⟩ := open_rows (cells := encDd) (k := 1) (ok := I64) encDd_len (by omega) Tryz.underlying56 (by kernel_rfl) (fun fuel cs y hy => by
    obtain ⟨a, r0, _, w0⟩ := DataW.trod_int Tryz.underlying24 hy
    exact ⟨a, r0, wf_i64 w0⟩) h
  exact ⟨a0, cap, L, rfl, h2, h3, h4⟩
theorem fieldsPt : ∃ f0 f1 : Field, Tryz.prog.underlying 58 = some (.struct #[f0, f1]) ∧ (f0.type = 55 ∧ f0.offset = 0) ∧ (f1.type = 56 ∧ f1.offset = 7) :=
  ⟨_, _, Tryz.underlying58, ⟨rfl, rfl⟩, rfl, rfl⟩
set_option maxRecDepth 100000 in
theorem trod_week {fuel : Nat} {cs : List Value} {y : DataW H × List MemPlace} (h : DataW.trod enc Tryz.prog w 0 spare held fuel 55 cs = some y) : ∃ f : Nat → Int, cs = [.int .i64 (f 0), .int .i64 (f 1), .int .i64 (f 2), .int .i64 (f 3), .int .i64 (f 4), .int .i64 (f 5), .int .i64 (f 6)] ∧ ∀ i, i < 7 → I64 (f i) := by
  obtain ⟨xs, m, _, _, hl, hxl, hxi⟩ := DataW.trod_array Tryz.underlying55 h
  have hC : Tryz.prog.cellsOf 55 = 7 := by kernel_rfl
  have hE : Tryz.prog.cellsOf 3 = 1 := by kernel_rfl
  rw [hC] at hl
  have key : ∀ i, i < 7 → ∃ a : Int, (cs.drop i).take 1 = [.int .i64 a] ∧ I64 a := fun i hi => by
    have h1 := hxi i hi
    rw [hE] at h1
    obtain ⟨x, hx⟩ := some_at hxl hi
    rw [hx, Nat.mul_one] at h1
    obtain ⟨a, r0, _, w0⟩ := DataW.trod_int Tryz.underlying3 h1
    exact ⟨a, r0, wf_i64 w0⟩
  obtain ⟨f, hf⟩ := Go.Deep.choose_lt (α := Int) key
  refine ⟨f, ?_, fun i hi => (hf i hi).2⟩
  match cs, hl with
  | [c0, c1, c2, c3, c4, c5, c6], _ =>
    have h0 := (hf 0 (by omega)).1
    have h1 := (hf 1 (by omega)).1
    have h2 := (hf 2 (by omega)).1
    have h3 := (hf 3 (by omega)).1
    have h4 := (hf 4 (by omega)).1
    have h5 := (hf 5 (by omega)).1
    have h6 := (hf 6 (by omega)).1
    simp at h0 h1 h2 h3 h4 h5 h6
    rw [h0, h1, h2, h3, h4, h5, h6]
set_option maxRecDepth 100000 in
theorem open_pattern {r : Reach} {b0 : Nat} {v : Value} {d : DataW H} {p : List MemPlace} (hv : Value.okWide Tryz.prog w r b0 58 v) (h : DataW.Trod enc Tryz.prog w 0 spare held 58 v d p) :
    ∃ (f : Nat → Int) (AD : Option Addr) (cD : Nat) (D : List Int), v = .agg #[.int .i64 (f 0), .int .i64 (f 1), .int .i64 (f 2), .int .i64 (f 3), .int .i64 (f 4), .int .i64 (f 5), .int .i64 (f 6), .slice AD D.length cD] ∧ (∀ i, i < 7 → I64 (f i)) ∧ D.length ≤ maxLen ∧ (∀ d ∈ D, I64 d) ∧ Sl encDd 1 w w.heap.size AD D := by
  obtain ⟨f0, f1, he, ⟨t0, o0⟩, ⟨t1, o1⟩⟩ := fieldsPt
  obtain ⟨cs, rfl, hsz⟩ := okWide_struct he hv
  have hC : Tryz.prog.cellsOf 58 = 8 := by kernel_rfl
  have hW : Tryz.prog.cellsOf 55 = 7 := by kernel_rfl
  have hD : Tryz.prog.cellsOf 56 = 1 := by kernel_rfl
  obtain ⟨fuel, hf⟩ := h
  obtain ⟨ys, n, _, _, hl, hyl, hff⟩ := DataW.trod_struct he hf
  obtain ⟨l⟩ := cs
  have hl8 : l.length = 8 := by simpa using hsz.trans hC
  match l, hl8 with
  | [c0, c1, c2, c3, c4, c5, c6, c7], _ =>
    have hyl2 : ys.length = 2 := hyl
    obtain ⟨x0, q0⟩ := some_at hyl2 (i := 0) (by omega)
    obtain ⟨x1, q1⟩ := some_at hyl2 (i := 1) (by omega)
    have h0 := hff 0 f0 rfl
    have h1 := hff 1 f1 rfl
    rw [o0, t0, q0, hW] at h0
    rw [o1, t1, q1, hD] at h1
    have hc : (Value.agg #[c0, c1, c2, c3, c4, c5, c6, c7]).cells.toList = [c0, c1, c2, c3, c4, c5, c6, c7] := rfl
    rw [hc] at h0 h1
    obtain ⟨f, e0, hw⟩ := trod_week h0
    have hsl : ∃ A n c, ([c0, c1, c2, c3, c4, c5, c6, c7].drop 7).take 1 = [Value.slice A n c] := by
      rcases DataW.trod_slice Tryz.underlying56 h1 with ⟨hc, _⟩ | ⟨a, len, cap, _, _, _, _, hc, _⟩
      · exact ⟨_, _, _, hc⟩
      · exact ⟨_, _, _, hc⟩
    obtain ⟨AD, cD, D, e1, hdl, hdi, hds⟩ := open_days hsl h1
    simp at e0 e1
    obtain ⟨z0, z1, z2, z3, z4, z5, z6⟩ := e0
    exact ⟨f, AD, cD, D, by rw [z0, z1, z2, z3, z4, z5, z6, e1], hw, hdl, hdi, hds⟩
end
end Go.Proofs.YtmngghglcgmkeaaGreatDoor
