/- Out of: Yt0. -/
import Derived.Test.YtgepbkldgnjpfaaGreatDoorZgaf
import Derived.Test.YtgepbkldgnjpfaaGreatDoorZgag
/- year's laws: rows of months that a law makes. -/
namespace Go.Proofs.YtgepbkldgnjpfaaGreatDoor
open Go.RowKit Go.Sort Go.BigFrame Go.Maps

theorem wpList_runV {P : Program} {ops : Array Oper} {rest : List Oper} {o : Oper} {a : Act} {w : World} {Q : Exit → Act → World → Prop} (hg : o.guard = none) (v : Value) (hrun : (execOp a.eval o).run P w = .ok (.value v) w) (hK : wpList P ops Q rest (a.put o.dst v) w) : wpList P ops Q (o :: rest) a w := by
  refine wpList_plain hg fun K' hK' => ?_
  unfold Oper.wp
  rw [hrun]
  exact hK' _ _ hK
theorem encMo_one (p : Mon × MoA) : ∀ u ∈ encMo p, u.oneCell' = true := by
  intro u hu
  simp only [encMo, moC, List.mem_cons, List.not_mem_nil, or_false] at hu
  rcases hu with rfl | rfl | rfl | rfl | rfl | rfl | rfl | rfl | rfl | rfl | rfl | rfl <;> rfl
theorem moInfo : (Tryz.prog.info? 54).map (fun i => (i.zero, i.size, i.bytes)) = some (some (.agg #[.int .i64 0, .int .i64 0, .int .i64 0, .slice none 0 0, .slice none 0 0, .slice none 0 0, .slice none 0 0, .slice none 0 0, .int .i64 0, .int .i64 0, .slice none 0 0, .slice none 0 0]), 12, 208) := by kernel_rfl
theorem newsMo (p : Mon × MoA) (w : World) : ∀ j u, (encMo p)[j]? = some u → (w.alloc (.cells (moC p.1 p.2) 54)).cell? ⟨w.heap.size, j, none⟩ = some u := fun j u hu => by
  have h := (Bk.new w 54 (moC p.1 p.2)).cell j
  rw [h]
  rw [← List.getElem?_toArray] at hu
  exact hu
/-- What is told of each month of a row that is being made. -/
structure MoR (B : Nat) (R : Mon × MoA → World → Prop) : Prop where
  bel : ∀ p w w', Below w.heap.size w w' → R p w → R p w'
  app : ∀ p w w' v (l : List (Mon × MoA)), Own encMo 12 54 B v l w → w.grownBy w' v.ownBlock → R p w → R p w'
  ok : ∀ p w, R p w → MoOk p.1 p.2 w
def OwnMs (B : Nat) (R : Mon × MoA → World → Prop) (v : Value) (l : List (Mon × MoA)) (w : World) : Prop := Own encMo 12 54 B v l w ∧ ∀ p ∈ l, R p w
section
variable {B : Nat} {R : Mon × MoA → World → Prop} {v v' : Value} {l : List (Mon × MoA)} {w w' : World}
theorem OwnMs.nil : OwnMs B R (.slice none 0 0) [] w := ⟨Own.nil _, fun _ h => absurd h (by simp)⟩
theorem OwnMs.below (hR : MoR B R) (h : OwnMs B R v l w) (hb : Below w.heap.size w w') : OwnMs B R v l w' :=
  have hg : w.grownBy w' none := ⟨hb.os, hb.tape, hb.output, hb.size, fun i hi _ => hb.block i hi⟩
  ⟨h.1.none_ hg, fun p hp => hR.bel p w w' hb (h.2 p hp)⟩
theorem OwnMs.snoc (hR : MoR B R) (h : OwnMs B R v l w) {x : Mon × MoA} (hx : R x w) (hn : Own encMo 12 54 B v' (l ++ [x]) w') (hg : w.grownBy w' v.ownBlock) : OwnMs B R v' (l ++ [x]) w' := by
  refine ⟨hn, fun p hp => ?_⟩
  rcases List.mem_append.1 hp with hp | hp
  · exact hR.app p w w' v l h.1 hg (h.2 p hp)
  · rw [List.mem_singleton] at hp
    subst hp
    exact hR.app p w w' v l h.1 hg hx
theorem OwnMs.row (hR : MoR B R) (h : OwnMs B R v l w) : ∃ A cap, v = .slice A l.length cap ∧ SlMo w A l ∧ l.length ≤ cap ∧ cap ≤ 9223372036854775807 ∧ (A = none → cap = 0) := by
  obtain ⟨A, cap, h1, h2⟩ := own_Sl encMo_len h.1
  refine ⟨A, cap, h1, ⟨h2, fun p hp => hR.ok p w (h.2 p hp)⟩, ?_⟩
  rcases h.1.2 with ⟨h3, h4⟩ | ⟨g, cap', cur, h3, _, _, h5, h6, _⟩
  · rw [h1] at h3
    injection h3 with e1 e2 e3
    omega
  · rw [h1] at h3
    injection h3 with e1 e2 e3
    unfold maxLen at h6
    refine ⟨by omega, by omega, fun e => ?_⟩
    rw [e] at e1
    cases e1
end
/-- What lay below B stays, where only a row of one's own is written. -/
theorem belOwn {α : Type} {enc : α → List Value} {k : Nat} {e : TypeId} {B B0 : Nat} {v : Value} {l : List α} {w0 w w' : World} (h : Below B0 w0 w) (hB : B0 ≤ B) (hw : B0 ≤ w0.heap.size) (ho : Own enc k e B v l w) (hg : w.grownBy w' v.ownBlock) : Below B0 w0 w' :=
  h.trans (grownBelowI hg (fun j hj => by have := (ho.lt hj).1; omega) (by have := h.size; omega))
/-- The months without orders. -/
def noOd (M : Mon) : Mon := { M with od := [] }
def noOdA (A : MoA) : MoA := { A with od := (none, 0) }
theorem noOd_ok {M : Mon} {A : MoA} {w : World} (h : MoOk M A w) : MoOk (noOd M) (noOdA A) w := ⟨h.gr, h.be, h.af, h.li, h.sc, h.ba, fun hn => absurd rfl hn, ⟨h.ln.1, h.ln.2.1, h.ln.2.2.1, h.ln.2.2.2.1, h.ln.2.2.2.2.1, h.ln.2.2.2.2.2.1, Nat.zero_le _⟩, ⟨h.sz.1, h.sz.2.1, h.sz.2.2.1, h.sz.2.2.2.1, h.sz.2.2.2.2.1, fun _ hx => absurd hx (by simp [noOd])⟩⟩
/-- As it was told at first. -/
def RNo (w0 : World) (p : Mon × MoA) (w : World) : Prop := MoOk p.1 p.2 w0 ∧ Below w0.heap.size w0 w
theorem moRNo (w0 : World) (B : Nat) (hB : w0.heap.size ≤ B) : MoR B (RNo w0) where
  bel _ _ _ hb h := ⟨h.1, bTrans h.2 hb⟩
  app _ _ _ _ _ ho hg h := ⟨h.1, belOwn h.2 hB (Nat.le_refl _) ho hg⟩
  ok _ _ h := h.1.below h.2
/-- With orders of one's own. -/
def ROd (w0 : World) (B : Nat) (p : Mon × MoA) (w : World) : Prop := (MoOk (noOd p.1) (noOdA p.2) w0 ∧ Below w0.heap.size w0 w) ∧ (p.1.od.length ≤ 1000000 ∧ ∀ x ∈ p.1.od, x.co.size ≤ 9223372036854775807) ∧ Own encO 6 61 B (.slice p.2.od.1 p.1.od.length p.2.od.2) p.1.od w
theorem ownNe {α β : Type} {enc : α → List Value} {enc' : β → List Value} {k k' : Nat} {e e' : TypeId} {B B' : Nat} {u v : Value} {l : List α} {m : List β} {w : World} (h : Own enc k e B v l w) (hu : Own enc' k' e' B' u m w) (hne : e ≠ e') : v.ownBlock = none ∨ v.ownBlock ≠ u.ownBlock := by
  rcases hu.2 with ⟨h1, _⟩ | ⟨g, cap, cur, h1, _, h3, _⟩
  · subst h1
    cases hv : v.ownBlock
    · exact .inl rfl
    · exact .inr (by simp [Value.ownBlock])
  · subst h1
    exact .inr (Ne.symm (h.ne_ (g := g) (cs := cur) h3 hne))
theorem ownBel {α : Type} {enc : α → List Value} {k : Nat} {e : TypeId} {B : Nat} {v : Value} {l : List α} {w w' : World} (h : Own enc k e B v l w) (hb : Below w.heap.size w w') : Own enc k e B v l w' := h.none_ ⟨hb.os, hb.tape, hb.output, hb.size, fun i hi _ => hb.block i hi⟩
theorem ownSlc {α : Type} {enc : α → List Value} {k : Nat} {e : TypeId} {B c : Nat} {A : Option Addr} {l : List α} {w : World} (hk : ∀ x, (enc x).length = k) (h : Own enc k e B (.slice A l.length c) l w) : Sl enc k w w.heap.size A l := by
  obtain ⟨A', c', h1, h2⟩ := own_Sl hk h
  injection h1 with h1
  rw [h1]
  exact h2
theorem moROd (w0 : World) (B : Nat) (hB : w0.heap.size ≤ B) : MoR B (ROd w0 B) where
  bel _ _ _ hb h := ⟨⟨h.1.1, bTrans h.1.2 hb⟩, h.2.1, ownBel h.2.2 hb⟩
  app _ _ _ _ _ ho hg h := ⟨⟨h.1.1, belOwn h.1.2 hB (Nat.le_refl _) ho hg⟩, h.2.1, h.2.2.kept hg (ownNe h.2.2 ho (by decide))⟩
  ok _ _ h := by
    have k := h.1.1.below h.1.2
    exact ⟨k.gr, k.be, k.af, k.li, k.sc, k.ba, ownSlc encO_len h.2.2, ⟨k.ln.1, k.ln.2.1, k.ln.2.2.1, k.ln.2.2.2.1, k.ln.2.2.2.2.1, k.ln.2.2.2.2.2.1, h.2.1.1⟩, ⟨k.sz.1, k.sz.2.1, k.sz.2.2.1, k.sz.2.2.2.1, k.sz.2.2.2.2.1, h.2.1.2⟩⟩
/-- The months without schemes; without gross items. -/
def noSc (M : Mon) : Mon := { M with sc := [] }
def noScA (A : MoA) : MoA := { A with sc := (none, 0) }
theorem noSc_ok {M : Mon} {A : MoA} {w : World} (h : MoOk M A w) : MoOk (noSc M) (noScA A) w := ⟨h.gr, h.be, h.af, h.li, fun hn => absurd rfl hn, h.ba, h.od, ⟨h.ln.1, h.ln.2.1, h.ln.2.2.1, h.ln.2.2.2.1, Nat.zero_le _, h.ln.2.2.2.2.2.1, h.ln.2.2.2.2.2.2⟩, ⟨h.sz.1, h.sz.2.1, h.sz.2.2.1, h.sz.2.2.2.1, fun _ hx => absurd hx (by simp [noSc]), h.sz.2.2.2.2.2⟩⟩
def RSc (w0 : World) (B : Nat) (p : Mon × MoA) (w : World) : Prop := (MoOk (noSc p.1) (noScA p.2) w0 ∧ Below w0.heap.size w0 w) ∧ (p.1.sc.length ≤ 1000000 ∧ ∀ x ∈ p.1.sc, x.1.size ≤ 9223372036854775807) ∧ Own encH 4 57 B (.slice p.2.sc.1 p.1.sc.length p.2.sc.2) p.1.sc w
theorem moRSc (w0 : World) (B : Nat) (hB : w0.heap.size ≤ B) : MoR B (RSc w0 B) where
  bel _ _ _ hb h := ⟨⟨h.1.1, bTrans h.1.2 hb⟩, h.2.1, ownBel h.2.2 hb⟩
  app _ _ _ _ _ ho hg h := ⟨⟨h.1.1, belOwn h.1.2 hB (Nat.le_refl _) ho hg⟩, h.2.1, h.2.2.kept hg (ownNe h.2.2 ho (by decide))⟩
  ok _ _ h := by
    have k := h.1.1.below h.1.2
    exact ⟨k.gr, k.be, k.af, k.li, ownSlc encH_len h.2.2, k.ba, k.od, ⟨k.ln.1, k.ln.2.1, k.ln.2.2.1, k.ln.2.2.2.1, h.2.1.1, k.ln.2.2.2.2.2.1, k.ln.2.2.2.2.2.2⟩, ⟨k.sz.1, k.sz.2.1, k.sz.2.2.1, k.sz.2.2.2.1, h.2.1.2, k.sz.2.2.2.2.2⟩⟩
def noGr (M : Mon) : Mon := { M with gr := [] }
def noGrA (A : MoA) : MoA := { A with gr := (none, 0) }
theorem noGr_ok {M : Mon} {A : MoA} {w : World} (h : MoOk M A w) : MoOk (noGr M) (noGrA A) w := ⟨fun hn => absurd rfl hn, h.be, h.af, h.li, h.sc, h.ba, h.od, ⟨Nat.zero_le _, h.ln.2⟩, ⟨fun _ hx => absurd hx (by simp [noGr]), h.sz.2⟩⟩
def RGr (w0 : World) (B : Nat) (p : Mon × MoA) (w : World) : Prop := (MoOk (noGr p.1) (noGrA p.2) w0 ∧ Below w0.heap.size w0 w) ∧ (p.1.gr.length ≤ 1000000 ∧ ∀ x ∈ p.1.gr, x.1.size ≤ 9223372036854775807) ∧ Own encI 2 65 B (.slice p.2.gr.1 p.1.gr.length p.2.gr.2) p.1.gr w
theorem moRGr (w0 : World) (B : Nat) (hB : w0.heap.size ≤ B) : MoR B (RGr w0 B) where
  bel _ _ _ hb h := ⟨⟨h.1.1, bTrans h.1.2 hb⟩, h.2.1, ownBel h.2.2 hb⟩
  app _ _ _ _ _ ho hg h := ⟨⟨h.1.1, belOwn h.1.2 hB (Nat.le_refl _) ho hg⟩, h.2.1, h.2.2.kept hg (ownNe h.2.2 ho (by decide))⟩
  ok _ _ h := by
    have k := h.1.1.below h.1.2
    exact ⟨ownSlc encI_len h.2.2, k.be, k.af, k.li, k.sc, k.ba, k.od, ⟨h.2.1.1, k.ln.2⟩, ⟨h.2.1.2, k.sz.2⟩⟩
/-- An empty row, just made. -/
theorem ownNew0 {α : Type} {enc : α → List Value} {k : Nat} {e : TypeId} {B : Nat} (w : World) (hB : B ≤ w.heap.size) : Own enc k e B (.slice (some ⟨w.heap.size, 0, none⟩) 0 0) ([] : List α) (w.alloc (.cells #[] e)) := by
  have h := World.ownsRow_lit (base := B) (e := e) (size := k) w #[] 0 hB (by decide) (by simp)
  unfold Own rowOf
  simpa using h
theorem run_append_noneC {w : World} {P : Program} (base : Nat) (t ty e : TypeId) (i : TypeInfo) (size : Nat) (ht : P.underlying t = some (.slice e)) (hi : P.info? e = some i) (v : Value) (n c : Nat) (xs : List Value) (hown : w.ownsRow base e size v n xs) :
    (Builtin.append_ #[t, t] ty #[v, .slice none 0 c]).run P w = .ok v w := by
  rcases hown.2 with ⟨rfl, rfl⟩ | ⟨g, cap, cur, rfl, _, _, hnc, _⟩
  · simp [Builtin.append_, run_underlying ht, sizeOf, typeInfo, hi, Builtin.lenOf, Builtin.firstCells]
  · simp [Builtin.append_, run_underlying ht, sizeOf, typeInfo, hi, Builtin.lenOf, Builtin.firstCells, hnc, storeCells]
theorem rowOf_inv {α : Type} {enc : α → List Value} {k : Nat} (hk : ∀ x, (enc x).length = k) {l : List α} {j : Nat} {u : Value} (h : (rowOf enc l)[j]? = some u) : ∃ i x m, l[i]? = some x ∧ (enc x)[m]? = some u ∧ j = i * k + m := by
  have hj : j < l.length * k := by have := (List.getElem?_eq_some_iff.1 h).1; rwa [rowOf_length hk] at this
  have hk0 : 0 < k := by rcases Nat.eq_zero_or_pos k with e | e; rw [e, Nat.mul_zero] at hj; omega; exact e
  have hi : j / k < l.length := Nat.div_lt_of_lt_mul (by rw [Nat.mul_comm]; exact hj)
  obtain ⟨x, hx⟩ : ∃ x, l[j / k]? = some x := ⟨_, List.getElem?_eq_getElem hi⟩
  have hm : j % k < (enc x).length := by rw [hk]; exact Nat.mod_lt _ hk0
  have h2 := rowOf_get hk l (j / k) x hx (j % k) _ (List.getElem?_eq_getElem hm)
  rw [Nat.div_add_mod', h] at h2
  exact ⟨_, x, j % k, hx, by rw [List.getElem?_eq_getElem hm]; exact h2.symm, (Nat.div_add_mod' j k).symm⟩
/-- One cell of one element is written. -/
theorem rowOf_set {α : Type} {enc : α → List Value} {k : Nat} (hk : ∀ x, (enc x).length = k) {l : List α} {i m : Nat} {x y : α} {u : Value} (hx : l[i]? = some x) (hm : m < k) (hu : (enc x).set m u = enc y) : (rowOf enc l).set (i * k + m) u = rowOf enc (l.set i y) := by
  induction l generalizing i with
  | nil => simp at hx
  | cons z l ih =>
    have e : ∀ (a : α) (r : List α), rowOf enc (a :: r) = enc a ++ rowOf enc r := fun _ _ => rfl
    cases i with
    | zero =>
      cases hx
      rw [List.set_cons_zero, e, e, Nat.zero_mul, Nat.zero_add, List.set_append_left _ _ (by rw [hk]; exact hm), hu]
    | succ i =>
      rw [List.getElem?_cons_succ] at hx
      rw [List.set_cons_succ, e, e, List.set_append_right _ _ (by rw [hk, Nat.add_mul]; omega), hk, Nat.add_mul, show i * k + 1 * k + m - k = i * k + m by omega, ih hx]
/-- A slice that came in, behind a row of one's own. -/
theorem wpList_append_sl {α : Type} {enc : α → List Value} {k : Nat} {P : Program} {ops : Array Oper} {rest : List Oper} {o : Oper} {a : Act} {w : World} {Q : Exit → Act → World → Prop}
    (hk : ∀ x, (enc x).length = k) (h1 : ∀ x, ∀ u ∈ enc x, u.oneCell' = true) (hgd : o.guard = none) (s x : Operand) (t : TypeId)
    (ho : o.op = .call { callee := .builtin .append, args := #[s, x], argTypes := #[t, t] })
    (base : Nat) (e : TypeId) (z : Value) (bytes : Nat) (ht : P.underlying t = some (.slice e)) (hi : (P.info? e).map (fun i => (i.zero, i.size, i.bytes)) = some (some z, k, bytes)) (hzs : z.cells.size = k) (hsz : 0 < k)
    (v : Value) (l m : List α) (A : Option Addr) (c : Nat) (hs : a.eval s = v) (hown : Own enc k e base v l w) (hx : a.eval x = .slice A m.length c) (hsl : Sl enc k w w.heap.size A m)
    (hn : l.length + m.length ≤ 1000000000) (hb : bytes ≤ 1000) (hbase : base ≤ w.heap.size)
    (h : ∀ v' w', Own enc k e base v' (l ++ m) w' → w.grownBy w' v.ownBlock → wpList P ops Q rest (a.put o.dst v') w') : wpList P ops Q (o :: rest) a w := by
  obtain ⟨i, hi1, hz, hsize, hby⟩ := info_parts hi
  by_cases hm : m = []
  · subst hm
    rw [List.append_nil] at h
    cases A with
    | none =>
      refine wpList_plain hgd fun K hK => ?_
      have hrun := run_append_noneC (P := P) (w := w) base t o.type e i k ht hi1 v l.length c (rowOf enc l) hown
      unfold Oper.wp
      simp [execOp, ho, resolve, invoke, builtin, hs, hx, hrun, Result.andThen]
      exact hK _ _ (h v w hown (World.grownBy.refl _ _))
    | some ad =>
      refine wpList_append_own w hgd s x t ho base e i z k bytes ht hi1 hz hsize hby hzs hsz v l.length (rowOf enc l) hs hown ad 0 c [] hx (by simp) (fun j u hu => by simp at hu) (fun u hu => by simp at hu) (by simp only [maxLen]; omega) ?_ hbase (fun v' w' h2 h3 _ => h v' w' ?_ h3)
      · have := Nat.mul_le_mul (show l.length + 0 ≤ 1000000000 by simpa using hn) hb
        omega
      · unfold Own
        simpa using h2
  · obtain ⟨b, off, rfl, hB, hc⟩ := hsl hm
    refine wpList_append_own w hgd s x t ho base e i z k bytes ht hi1 hz hsize hby hzs hsz v l.length (rowOf enc l) hs hown ⟨b, off, none⟩ m.length c (rowOf enc m) hx (rowOf_length hk m) (fun j u hu => ?_) (fun u hu => ?_) (by simp only [maxLen]; omega) ?_ hbase (fun v' w' h2 h3 _ => h v' w' ?_ h3)
    · obtain ⟨i2, x2, j2, hx2, hu2, rfl⟩ := rowOf_inv hk hu
      have := hc i2 x2 hx2 j2 u hu2
      unfold Addr.add
      split
      · rename_i h0
        have e : off + i2 * k + j2 = off := by omega
        rw [e] at this
        exact this
      · simpa [Nat.add_assoc] using this
    · obtain ⟨x2, _, hu2⟩ := List.mem_flatMap.1 hu
      exact h1 x2 u hu2
    · have := Nat.mul_le_mul hn hb
      omega
    · unfold Own
      rw [List.length_append, rowOf_append]
      exact h2
/-- A row of one element, just made. -/
theorem ownNew1 {α : Type} {enc : α → List Value} {k : Nat} {e : TypeId} {B : Nat} (hk : ∀ x, (enc x).length = k) (x : α) (w : World) (hB : B ≤ w.heap.size) : Own enc k e B (.slice (some ⟨w.heap.size, 0, none⟩) 1 1) [x] (w.alloc (.cells (enc x).toArray e)) := by
  have h := World.ownsRow_lit (base := B) (e := e) (size := k) w (enc x).toArray 1 hB (by decide) (by simp [hk x])
  have hr : rowOf enc [x] = enc x := by simp [rowOf]
  unfold Own
  rw [hr]
  simpa using h
theorem run_cutMid {s t u : Nat} {o : Oper} {a : Act} {w : World} {A : Option Addr} {len cap f k : Nat} (hop : o.op = .slice 22 (.tmp s) (some (.tmp t)) (some (.tmp u)) none) (hs : a.eval (.tmp s) = .slice A len cap) (ht : a.eval (.tmp t) = .int .i64 f) (hu : a.eval (.tmp u) = .int .i64 k) (hf : f ≤ k) (hk : k ≤ len) (hlc : len ≤ cap) (hc : cap ≤ 9223372036854775807) (hA : A = none → cap = 0) :
    (execOp a.eval o).run Tryz.prog w = .ok (.value (.slice (cutA A f cap) (k - f) (cap - f))) w := by
  have h1 : (k : Int) ≤ len := by omega
  have h2 : (len : Int) ≤ cap := by omega
  have h3 : (cap : Int) ≤ 9223372036854775807 := by omega
  have h4 : (f : Int) ≤ k := by omega
  unfold execOp
  simp only [hop, hs, ht, hu, Option.map_some, Option.map_none]
  cases A with
  | none =>
    obtain rfl : cap = 0 := hA rfl
    obtain rfl : len = 0 := by omega
    obtain rfl : k = 0 := by omega
    obtain rfl : f = 0 := by omega
    unfold cutA
    go_simp
  | some a =>
    unfold cutA
    go_simp
    by_cases h5 : cap = f
    · simp [h5]
      exact fun h => absurd h (by omega)
    · simp [h5]
      exact fun h => absurd h (by omega)
end Go.Proofs.YtgepbkldgnjpfaaGreatDoor
