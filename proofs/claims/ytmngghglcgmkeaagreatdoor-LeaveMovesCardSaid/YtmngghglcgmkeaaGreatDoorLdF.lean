/- Openers of a Span and of a row of three uint16. -/
import Derived.Test.YtmngghglcgmkeaaGreatDoorLdE
namespace Go.Proofs.YtmngghglcgmkeaaGreatDoor
open Go.ChangeShapes Go.WideShapes Go.ChangeAt Go.RowKit Go.Deep

theorem wf_h16 {n : Int} (h : (Lit.int .u16 n).wf = true) : 0 ≤ n ∧ n ≤ 65535 := by
  have e1 : IntKind.u16.min = 0 := rfl
  have e2 : IntKind.u16.max = 65535 := rfl
  simp [Lit.wf, e1, e2] at h
  omega
section
variable {H : Type} {enc : TypeId × Value → H} {w : World} {spare : Nat → Bool} {held : Bool}
theorem fieldsSp : ∃ f0 f1 : Field, Tryz.prog.underlying 28 = some (.struct #[f0, f1]) ∧ oneCellFields Tryz.prog #[f0, f1] = true ∧ f0.type = 24 ∧ f1.type = 24 :=
  ⟨_, _, Tryz.underlying28, by kernel_rfl, rfl, rfl⟩
set_option maxRecDepth 100000 in
theorem open_span {r : Reach} {b0 : Nat} {v : Value} {d : DataW H} {p : List MemPlace} (hv : Value.okWide Tryz.prog w r b0 28 v) (h : DataW.Trod enc Tryz.prog w 0 spare held 28 v d p) :
    ∃ a b : Int, v = .agg #[.int .i64 a, .int .i64 b] ∧ (-9223372036854775808 ≤ a ∧ a ≤ 9223372036854775807) ∧ (-9223372036854775808 ≤ b ∧ b ≤ 9223372036854775807) := by
  obtain ⟨f0, f1, he, hone, e0, e1⟩ := fieldsSp
  obtain ⟨cs, rfl, hsz⟩ := okWide_struct he hv
  have hC : Tryz.prog.cellsOf 28 = 2 := by kernel_rfl
  obtain ⟨fuel, hf⟩ := h
  obtain ⟨ys, n, _, _, _, hyl, hff⟩ := DataW.trod_struct he hf
  have hsz2 : cs.size = 2 := hsz.trans hC
  obtain ⟨v0, v1, hcs⟩ : ∃ v0 v1, cs = #[v0, v1] := by
    obtain ⟨l⟩ := cs
    have hl : l.length = 2 := by simpa using hsz2
    match l, hl with
    | [v0, v1], _ => exact ⟨v0, v1, rfl⟩
  subst hcs
  have key : ∀ (j : Nat) (g : Field) (u : Value), (#[f0, f1] : Array Field)[j]? = some g → (#[v0, v1] : Array Value)[j]? = some u → ∃ m y, DataW.trod enc Tryz.prog w 0 spare held m g.type [u] = some y := by
    intro j g u hg hu
    obtain ⟨ho, hk⟩ := hone_of hone j g hg
    have h1 := hff j g hg
    rw [ho, hk] at h1
    have hjl : j < 2 := (Array.getElem?_eq_some_iff.1 hg).1
    have h2 : ((Value.agg #[v0, v1]).cells.toList.drop j).take 1 = [u] := by
      have hj2 : j = 0 ∨ j = 1 := by omega
      rcases hj2 with rfl | rfl <;> (cases hu; rfl)
    rw [h2] at h1
    have hys : ys[j]? = some (ys[j]'(by have : (#[f0, f1] : Array Field).size = 2 := rfl; omega)) := List.getElem?_eq_getElem _
    exact ⟨_, _, h1.trans hys⟩
  obtain ⟨m0, y0, t0⟩ := key 0 f0 v0 rfl rfl
  obtain ⟨m1, y1, t1⟩ := key 1 f1 v1 rfl rfl
  rw [e0] at t0
  rw [e1] at t1
  obtain ⟨a, r0, _, w0⟩ := DataW.trod_int Tryz.underlying24 t0
  obtain ⟨b, r1, _, w1⟩ := DataW.trod_int Tryz.underlying24 t1
  have q0 : v0 = .int .i64 a := by simpa using r0
  have q1 : v1 = .int .i64 b := by simpa using r1
  exact ⟨a, b, by rw [q0, q1], wf_i64 w0, wf_i64 w1⟩
end
end Go.Proofs.YtmngghglcgmkeaaGreatDoor
