import Derived.Test.YtdpejolpjhlibaaGreatDoorThos
import Derived.Test.YtdpejolpjhlibaaGreatDoorRa9
import Derived.Deep.RegionHeld3
import Derived.Deep.AppendLies
import Derived.Deep.Upon
/- Facts appended to a row of facts, as one step of a region that draws; in the document's type of facts. -/
namespace Go.Proofs.YtdpejolpjhlibaaGreatDoor
open Go.RowKit Go.Sort

theorem rfactInfo : (Tryz.prog.info? 37).map (fun i => (i.zero, i.size, i.bytes)) = some (some (.agg #[.int .u32 0, .int .u32 0, .int .i64 0, .int .i64 0, .int .i64 0, .string ⟨#[]⟩, .int .i64 0, .string ⟨#[]⟩]), 8, 72) := by kernel_rfl
/-- Facts in a row of their own, in the document's type. -/
abbrev OwnR (B : Nat) (v : Value) (l : List Fa) (w : World) : Prop := Own encF 8 37 B v l w
theorem OwnR.empty {W : World} {h B : Nat} (hE : Bk h 37 #[] W) (hb : B ≤ h) : OwnR B (.slice (some ⟨h, 0, none⟩) 0 0) [] W :=
  ⟨rfl, .inr ⟨h, 0, #[], rfl, hb, hE, Nat.le_refl _, by simp [maxLen], rfl, rfl⟩⟩
theorem OwnR.sl {B : Nat} {v : Value} {l : List Fa} {w : World} (h : OwnR B v l w) : ∃ A cap, v = .slice A l.length cap ∧ l.length ≤ cap ∧ SlF w A l := by
  by_cases h0 : l = []
  · subst h0
    rcases h.2 with ⟨rfl, _⟩ | ⟨g, cap, cur, rfl, hb, hg, hn0, hcm, hcs, ht⟩
    · exact ⟨none, 0, rfl, Nat.le_refl _, fun hl => absurd rfl hl⟩
    · exact ⟨some ⟨g, 0, none⟩, cap, rfl, Nat.zero_le _, fun hl => absurd rfl hl⟩
  · obtain ⟨g, cap, rfl, hb, hr⟩ := h.row encF_len h0
    exact ⟨some ⟨g, 0, none⟩, cap, rfl, hr.le, fun _ => ⟨g, 0, rfl, hr.lt, fun i x hx j u hu => by rw [Nat.zero_add]; exact hr.cell hx hu⟩⟩
theorem belowR {B : Nat} {w0 w w' : World} {v : Value} {l : List Fa} (h : Below B w0 w) (hB : B ≤ w.heap.size) (ho : OwnR B v l w) (hg : w.grownBy w' v.ownBlock) : Below B w0 w' :=
  h.trans ⟨hg.os, hg.tape, hg.output, hg.size, fun i hi => hg.block i (by omega) (ho.far hi)⟩
/-- A row of one fact. -/
theorem slOne {W : World} {b : Nat} {f : Fa} {t : TypeId} (h : Bk b t (FA f) W) : SlF W (some ⟨b, 0, none⟩) [f] := by
  intro _
  refine ⟨b, 0, rfl, h.lt, fun i x hx j u hu => ?_⟩
  have hi : i = 0 := by
    have := (List.getElem?_eq_some_iff.1 hx).1
    simp at this; omega
  subst hi
  have : x = f := by simpa using hx.symm
  subst this
  simp only [Nat.zero_mul, Nat.zero_add]
  rw [h.cell, ← Array.getElem?_toList]
  exact hu
theorem run_app_many {ty : TypeId} {B : Nat} {v : Value} {l m : List Fa} {A : Option Addr} {cap : Nat} {W : World} (ho : OwnR B v l W) (hs : SlF W A m) (hn : l.length + m.length ≤ 1000000) (hB : B ≤ W.heap.size) :
    ∃ v' W', (Builtin.append_ #[27, 27] ty #[v, .slice A m.length cap]).run Tryz.prog W = .ok v' W' ∧ OwnR B v' (l ++ m) W' ∧ W.grownBy W' v.ownBlock := by
  obtain ⟨i, hi1, hz, hsize, hby⟩ := info_parts rfactInfo
  by_cases h0 : m = []
  · subst h0
    have hsl : ∃ b s c, v = .slice b s c ∧ s ≤ c := by
      rcases ho.2 with ⟨rfl, _⟩ | ⟨g, c, cur, rfl, _, _, h, _⟩
      · exact ⟨none, 0, 0, rfl, Nat.le_refl _⟩
      · exact ⟨_, _, _, rfl, h⟩
    obtain ⟨b, s, c, rfl, hsc⟩ := hsl
    refine ⟨.slice b s c, W, ?_, by simpa using ho, World.grownBy.refl _ _⟩
    refine run_append_nothing W _ _ ty _ i Tryz.underlying27 hi1 b s c hsc _ ?_
    cases A with
    | none => exact Src.ofNil W Tryz.underlying27 cap
    | some a => exact Src.ofSlice W Tryz.underlying27 a 0 cap [] (by simp) (fun j u hu => by simp at hu) (fun u hu => by cases hu)
  · obtain ⟨b, off, rfl, _, _⟩ := hs h0
    obtain ⟨v', W', h1, h2, h3, _⟩ := run_append_own_at (P := Tryz.prog) W B 27 ty 37 i _ 8 72 Tryz.underlying27 hi1 hz hsize hby rfl (by omega) v l.length (rowOf encF l) ho ⟨b, off, none⟩ m.length cap (rowF m) (rowF_len m) (rowF_cells hs rfl) (rowF_one m) (by simp only [maxLen]; omega) (by omega) hB
    refine ⟨v', W', h1, ?_, h3⟩
    unfold OwnR Own
    rw [List.length_append, rowOf_append]
    exact h2
theorem step_app_many {ops : Array Oper} {o : Oper} {a : Act} {K : Act → World → Prop} {Q : Exit → Act → World → Prop} {E : Prop} (hgd : o.guard = none) (s x : Operand)
    (hop : o.op = .call { callee := .builtin .append, args := #[s, x], argTypes := #[27, 27] })
    {B : Nat} {v : Value} {l m : List Fa} {A : Option Addr} {n cap : Nat} {W : World} (hv : a.eval s = v) (hx : a.eval x = .slice A n cap) (hm : m.length = n) (ho : OwnR B v l W) (hs : SlF W A m) (hn : l.length + m.length ≤ 1000000) (hB : B ≤ W.heap.size)
    (h : ∀ v' W', OwnR B v' (l ++ m) W' → W.grownBy W' v.ownBlock → K (a.put o.dst v') W') :
    if Region.wanted o (yielded ops a.tmps) = true then Oper.wp Tryz.prog o a W K Q else E := by
  have hw : Region.wanted o (yielded ops a.tmps) = true := by simp [Region.wanted, hgd]
  rw [if_pos hw]
  subst hm
  obtain ⟨v', W', hr, h2, h3⟩ := run_app_many (ty := o.type) (cap := cap) ho hs hn hB
  unfold Oper.wp execOp
  simp only [hop, resolve, invoke, builtin, Sem.run_bind, Sem.run_pure, Result.andThen_ok, List.map_toArray, List.map_cons, List.map_nil, hv, hx, hr]
  exact h v' W' h2 h3
theorem wp_app_many {ops : Array Oper} {rest : List Oper} {o : Oper} {a : Act} {Q : Exit → Act → World → Prop} (hgd : o.guard = none) (s x : Operand)
    (hop : o.op = .call { callee := .builtin .append, args := #[s, x], argTypes := #[27, 27] })
    {B : Nat} {v : Value} {l m : List Fa} {A : Option Addr} {n cap : Nat} {W : World} (hv : a.eval s = v) (hx : a.eval x = .slice A n cap) (hm : m.length = n) (ho : OwnR B v l W) (hs : SlF W A m) (hn : l.length + m.length ≤ 1000000) (hB : B ≤ W.heap.size)
    (h : ∀ v' W', OwnR B v' (l ++ m) W' → W.grownBy W' v.ownBlock → wpList Tryz.prog ops Q rest (a.put o.dst v') W') : wpList Tryz.prog ops Q (o :: rest) a W :=
  wpList_plain hgd fun _ hK => by
    subst hm
    obtain ⟨v', W', hr, h2, h3⟩ := run_app_many (ty := o.type) (cap := cap) ho hs hn hB
    unfold Oper.wp execOp
    simp only [hop, resolve, invoke, builtin, Sem.run_bind, Sem.run_pure, Result.andThen_ok, List.map_toArray, List.map_cons, List.map_nil, hv, hx, hr]
    exact hK _ _ (h v' W' h2 h3)
end Go.Proofs.YtdpejolpjhlibaaGreatDoor
