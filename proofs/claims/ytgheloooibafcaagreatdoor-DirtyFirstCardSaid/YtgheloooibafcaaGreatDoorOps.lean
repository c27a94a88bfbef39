/- How slips that came in are read. -/
import Derived.Test.YtgheloooibafcaaGreatDoorOp9
import Derived.Test.YtgheloooibafcaaGreatDoorDks
import Derived.SizedLaws
namespace Go.Proofs.YtgheloooibafcaaGreatDoor
open Go.RowKit Go.ChangeShapes Go.WideShapes Go.Deep Go.Joins

theorem weights_mem_all {H : Type} {P : Program} {e : TypeId} : ∀ {l : List (DataW H)} {d : DataW H}, d ∈ l → ∀ n ∈ d.weights P e, n ∈ DataW.weightsAll P e l
  | x :: r, d, hd, n, hn => by
    unfold DataW.weightsAll
    rw [List.mem_append]
    rcases List.mem_cons.1 hd with rfl | hd
    · exact .inl hn
    · exact .inr (weights_mem_all hd n hn)
section
variable {H : Type} {enc : TypeId × Value → H} {w : World} {spare : Nat → Bool} {held : Bool}
theorem fieldsL : ∃ f0 f1 f2 : Field, Tryz.prog.underlying 134 = some (.struct #[f0, f1, f2]) ∧ oneCellFields Tryz.prog #[f0, f1, f2] = true ∧ f0.type = 3 ∧ f1.type = 9 ∧ f2.type = 87 :=
  ⟨_, _, _, Tryz.underlying134, by kernel_rfl, rfl, rfl, rfl⟩
theorem fieldsZ : ∃ f0 f1 f2 : Field, Tryz.prog.underlying 60 = some (.struct #[f0, f1, f2]) ∧ oneCellFields Tryz.prog #[f0, f1, f2] = true ∧ f0.type = 3 ∧ f1.type = 3 ∧ f2.type = 58 :=
  ⟨_, _, _, Tryz.underlying60, by kernel_rfl, rfl, rfl, rfl⟩
instance lnNonempty : Inhabited Ln := ⟨(0, ⟨#[]⟩, 0)⟩
instance szNonempty : Inhabited Sz := ⟨⟨0, 0, none, 0, []⟩⟩
set_option maxRecDepth 100000 in
theorem open_lines {fuel : Nat} {v : Value} {y : DataW H × List MemPlace} (h : DataW.trod enc Tryz.prog w 0 spare held fuel 58 [v] = some y) :
    ∃ (A : Option Addr) (cap : Nat) (L : List Ln), v = .slice A L.length cap ∧ L.length ≤ maxLen ∧ SlL w A L ∧ (L = [] ∨ ∃ es sp, y.1 = .slice es sp ∧ es.length = L.length) := by
  obtain ⟨f0, f1, f2, he, hone, e0, e1, e2⟩ := fieldsL
  rcases open_slice_fields Tryz.underlying58 he hone (by kernel_rfl) h with ⟨hc, _⟩ | ⟨a, len, cap, m, D, Pl, hc, _, hl, hm, hmm, hx, hi⟩
  · simp only [List.cons.injEq, and_true] at hc
    exact ⟨none, 0, [], hc, by simp, fun h => absurd rfl h, .inl rfl⟩
  · simp only [List.cons.injEq, and_true] at hc
    subst hc
    have hlm : len ≤ m := by rw [hmm]; split <;> omega
    have key : ∀ i, i < len → ∃ x : Ln, ∀ j u, (encL x)[j]? = some u → w.cell? (a.add (i * 3 + j)) = some u := by
      intro i hil
      obtain ⟨ys, n, _, _, _, hf⟩ := hi i (by omega)
      obtain ⟨v0, y0, c0, _, t0⟩ := hf 0 f0 rfl
      obtain ⟨v1, y1, c1, _, t1⟩ := hf 1 f1 rfl
      obtain ⟨v2, y2, c2, _, t2⟩ := hf 2 f2 rfl
      rw [e0] at t0
      rw [e1] at t1
      rw [e2] at t2
      obtain ⟨n0, r0, _, w0⟩ := DataW.trod_int Tryz.underlying3 t0
      obtain ⟨n1, r1, _, w1⟩ := DataW.trod_string Tryz.underlying9 t1
      obtain ⟨n2, r2, _, w2⟩ := DataW.trod_int Tryz.underlying87 t2
      simp only [List.cons.injEq, and_true] at r0 r1 r2
      subst r0; subst r1; subst r2
      refine ⟨(n0, n1, n2), fun j u hu => ?_⟩
      have hj : j < 3 := by have := (List.getElem?_eq_some_iff.1 hu).1; rwa [encL_len] at this
      have hj2 : j = 0 ∨ j = 1 ∨ j = 2 := by omega
      rcases hj2 with rfl | rfl | rfl
      · cases hu; exact c0
      · cases hu; exact c1
      · cases hu; exact c2
    obtain ⟨f, hf⟩ := Go.Deep.choose_lt (α := Ln) key
    refine ⟨some a, cap, (List.range len).map f, by simp, by simp; omega, ?_, .inr ⟨(List.range len).map D, (List.range (m - len)).map fun j => D (len + j), by rw [hx], by simp⟩⟩
    · intro hne
      have h0' : 0 < len := by
        rcases Nat.eq_zero_or_pos len with rfl | h
        · simp at hne
        · exact h
      have c0 := hf 0 h0' 0 _ rfl
      obtain ⟨b, off, spot⟩ := a
      have hspot : spot = none := by simpa [Addr.add] using World.cell?_spot c0
      subst hspot
      refine ⟨b, off, rfl, by simpa [Addr.add] using World.block_lt_of_cell? w _ c0, fun i x hx j u hu => ?_⟩
      have hil : i < len := by have := (List.getElem?_eq_some_iff.1 hx).1; simpa using this
      have hxx : x = f i := by simpa [hil] using hx.symm
      subst hxx
      have c := hf i hil j u hu
      rw [add_plain] at c
      simpa [Nat.add_assoc] using c
set_option maxRecDepth 100000 in
/-- Slips that came in. -/
theorem open_slips {r : Reach} {b0 : Nat} {v : Value} {d : DataW H} {p : List MemPlace}
    (hv : Value.okWide Tryz.prog w r b0 56 v) (h : DataW.Trod enc Tryz.prog w 0 spare held 56 v d p) :
    ∃ (A : Option Addr) (cap : Nat) (Z : List Sz), v = .slice A Z.length cap ∧ Z.length ≤ maxLen ∧ SlZ w A Z ∧ ((∀ n ∈ d.weights Tryz.prog 56, n ≤ reachBytes) → RoomZ Z) := by
  obtain ⟨a0, len, cap, rfl⟩ := okWide_slice Tryz.underlying56 hv
  obtain ⟨fuel, hf⟩ := h
  obtain ⟨f0, f1, f2, he, hone, e0, e1, e2⟩ := fieldsZ
  rcases open_slice_fields Tryz.underlying56 he hone (by kernel_rfl) hf with ⟨hc, _⟩ | ⟨a, len', cap', m, D, Pl, hc, _, hl, hm, hmm, hx, hi⟩
  · simp [Value.cells] at hc
    obtain ⟨rfl, rfl, rfl⟩ := hc
    exact ⟨none, 0, [], rfl, by simp, ⟨fun h => absurd rfl h, by simp⟩, fun _ z hz => by cases hz⟩
  · simp [Value.cells] at hc
    obtain ⟨rfl, rfl, rfl⟩ := hc
    have hlm : len ≤ m := by rw [hmm]; split <;> omega
    have key : ∀ i, i < len → ∃ z : Sz, (∀ j u, (encZ z)[j]? = some u → w.cell? (a.add (i * 3 + j)) = some u) ∧ SlL w z.A z.ls ∧ ((∀ n ∈ (D i).weights Tryz.prog 60, n ≤ reachBytes) → z.ls.length * 32 ≤ 140737488355328) := by
      intro i hil
      obtain ⟨ys, n, hD, _, hyl, hf⟩ := hi i (by omega)
      obtain ⟨v0, y0, c0, q0, t0⟩ := hf 0 f0 rfl
      obtain ⟨v1, y1, c1, q1, t1⟩ := hf 1 f1 rfl
      obtain ⟨v2, y2, c2, q2, t2⟩ := hf 2 f2 rfl
      rw [e0] at t0
      rw [e1] at t1
      rw [e2] at t2
      obtain ⟨n0, r0, _, w0⟩ := DataW.trod_int Tryz.underlying3 t0
      obtain ⟨n1, r1, _, w1⟩ := DataW.trod_int Tryz.underlying3 t1
      obtain ⟨A2, cap2, L, rfl, _, hsl, hld⟩ := open_lines t2
      simp only [List.cons.injEq, and_true] at r0 r1
      subst r0; subst r1
      refine ⟨⟨n0, n1, A2, cap2, L⟩, fun j u hu => ?_, hsl, fun hw => ?_⟩
      · have hj : j < 3 := by have := (List.getElem?_eq_some_iff.1 hu).1; rwa [encZ_len] at this
        have hj2 : j = 0 ∨ j = 1 ∨ j = 2 := by omega
        rcases hj2 with rfl | rfl | rfl
        · cases hu; exact c0
        · cases hu; exact c1
        · cases hu; exact c2
      · rcases hld with rfl | ⟨es, sp, hy, hes⟩
        · simp
        · have hmem : (es.length + sp.length) * 32 ∈ (D i).weights Tryz.prog 60 := by
            rw [hD]
            unfold DataW.weights
            rw [he]
            refine DataW.weights_mem_each (j := 2) (t := 58) (d := .slice es sp) (by simp [e2]) (by rw [List.getElem?_map, q2]; simp [hy]) _ ?_
            unfold DataW.weights
            rw [Tryz.underlying58]
            show (es.length + sp.length) * 32 ∈ (es.length + sp.length) * Tryz.prog.bytesOf 134 :: _
            rw [show Tryz.prog.bytesOf 134 = 32 by kernel_rfl]
            exact List.mem_cons_self ..
          have := hw _ hmem
          rw [show reachBytes = 140737488351232 from rfl] at this
          show L.length * 32 ≤ 140737488355328
          have h2 : es.length * 32 ≤ (es.length + sp.length) * 32 := Nat.mul_le_mul_right _ (Nat.le_add_right _ _)
          rw [hes] at h2
          omega
    obtain ⟨f, hf⟩ := Go.Deep.choose_lt (α := Sz) key
    refine ⟨some a, cap, (List.range len).map f, by simp, by simp; omega, ⟨?_, ?_⟩, ?_⟩
    · intro hne
      have h0' : 0 < len := by
        rcases Nat.eq_zero_or_pos len with rfl | h
        · simp at hne
        · exact h
      have c0 := (hf 0 h0').1 0 _ rfl
      obtain ⟨b, off, spot⟩ := a
      have hspot : spot = none := by simpa [Addr.add] using World.cell?_spot c0
      subst hspot
      refine ⟨b, off, rfl, by simpa [Addr.add] using World.block_lt_of_cell? w _ c0, fun i x hx j u hu => ?_⟩
      have hil : i < len := by have := (List.getElem?_eq_some_iff.1 hx).1; simpa using this
      have hxx : x = f i := by simpa [hil] using hx.symm
      subst hxx
      have c := (hf i hil).1 j u hu
      rw [add_plain] at c
      simpa [Nat.add_assoc] using c
    · intro z hz
      obtain ⟨i, hi', rfl⟩ := List.mem_map.1 hz
      exact (hf i (List.mem_range.1 hi')).2.1
    · intro hw z hz
      obtain ⟨i, hi', rfl⟩ := List.mem_map.1 hz
      refine (hf i (List.mem_range.1 hi')).2.2 fun n hn => hw n ?_
      injection hx with hx1 hx2
      rw [hx1]
      unfold DataW.weights
      rw [Tryz.underlying56]
      show n ∈ _ :: (DataW.weightsAll Tryz.prog 60 ((List.range len).map D) ++ _)
      refine List.mem_cons_of_mem _ (List.mem_append_left _ (weights_mem_all (List.mem_map.2 ⟨i, hi', rfl⟩) n hn))
end
end Go.Proofs.YtgheloooibafcaaGreatDoor
