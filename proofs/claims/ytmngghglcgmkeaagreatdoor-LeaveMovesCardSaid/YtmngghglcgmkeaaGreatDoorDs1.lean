/- Rows of days in a slice of one's own: slices.Sort, Compact, append. Printed by gen/mkds.py from the texts on rows of wagebook/api.Day. -/
import Derived.Test.YtmngghglcgmkeaaGreatDoorUs5
import Derived.Test.YtmngghglcgmkeaaGreatDoorShD
namespace Go.Proofs.YtmngghglcgmkeaaGreatDoor
open Go.RowKit Go.Sort

abbrev eDd : Int → Value := Value.int .i64
def DRow (w : World) (g off : Nat) (d : Array Int) (W : World) : Prop := ∃ n, W = putRow eDd (Sort.ahead w n) g off d
def DG (w : World) (g off : Nat) (d : Array Int) (W : World) : Prop := w.grownBy W (some g) ∧ W.heap[g]? = (putRow eDd w g off d).heap[g]?
theorem drow_block (w : World) (g off : Nat) (d : Array Int) : (putRow eDd w g off d).heap[g]? = w.heap[g]?.map (onCells (putCells eDd off d)) := by
  simp [putRow, mapBlock, Array.getElem?_modify]
theorem drow_grownBy (w : World) (g off : Nat) (d : Array Int) : w.grownBy (putRow eDd w g off d) (some g) :=
  ⟨rfl, rfl, rfl, by simp [putRow, mapBlock], fun k _ hk => by
    have hne : g ≠ k := fun h => hk (by rw [h])
    simp [putRow, mapBlock, Array.getElem?_modify, hne]⟩
theorem DG.ofRow {w W : World} {g off : Nat} {d : Array Int} (h : DRow w g off d W) : DG w g off d W := by
  obtain ⟨n, rfl⟩ := h
  have h := drow_grownBy (Sort.ahead w n) g off d
  exact ⟨⟨h.os, h.tape, h.output, h.size, h.block⟩, by rw [drow_block, drow_block]; rfl⟩
theorem dd_Sort (g off cap : Nat) (l : List Int) (w : World) (hH : Holds eDd w g off l.toArray) (hg : g < w.heap.size) (hsz : l.length ≤ 1000000) :
    Calls Tryz.prog 117 #[.slice (some ⟨g, off, none⟩) l.length cap] w fun e w' => e = .returned (.tuple #[]) ∧ DG w g off (l.mergeSort fun x y => decide (x ≤ y)).toArray w' :=
  (AnyM.slices_Sort_int Tryz.layDaySort g off cap l w hH hg (by omega)).mono fun e w' ⟨h1, n, os, h2⟩ => ⟨h1, by
    subst h2
    have k := DG.ofRow (w := w) (g := g) (off := off) (d := (l.mergeSort fun x y => decide (x ≤ y)).toArray) ⟨n, rfl⟩
    have hs : g < (putRow eDd (Sort.ahead w n) g off (l.mergeSort fun x y => decide (x ≤ y)).toArray).heap.size := Nat.lt_of_lt_of_le hg k.1.size
    refine ⟨⟨k.1.os, k.1.tape, k.1.output, ?_, fun i hi hn => ?_⟩, ?_⟩
    · exact Nat.le_trans k.1.size (by simp only [grow, Array.size_append]; exact Nat.le_add_right _ _)
    · have := k.1.block i hi hn; simp only [grow]; rw [Array.getElem?_append_left (Nat.lt_of_lt_of_le hi k.1.size)]; exact this
    · have := k.2; simp only [grow]; rw [Array.getElem?_append_left hs]; exact this⟩
theorem dd_Sort0 (A : Option Addr) (cap : Nat) (w : World) : Calls Tryz.prog 117 #[.slice A 0 cap] w fun e w' => e = .returned (.tuple #[]) ∧ w' = w := AnyM.slices_Sort_int_none Tryz.layDaySort A cap w
theorem dd_Compact0 (A : Option Addr) (cap : Nat) (w : World) : Calls Tryz.prog 118 #[.slice A 0 cap] w fun e w' => e = .returned (.slice A 0 cap) ∧ w' = w := by
  go_enter Tryz.func118, Tryz.ntmps118
  go_wp2
  go_ret
  exact ⟨rfl, rfl⟩
theorem dd_Compact (g off cap : Nat) (d : Array Int) (w : World) (hH : Holds eDd w g off d) (hsz : d.size ≤ 1000000) (hcap : d.size ≤ cap) :
    Calls Tryz.prog 118 #[.slice (some ⟨g, off, none⟩) d.size cap] w fun e w' => e = .returned (.slice (some ⟨g, off, none⟩) (Lib.compactUpTo d d.size).length cap) ∧ DRow w g off (Lib.compactUpTo d d.size ++ List.replicate (d.size - (Lib.compactUpTo d d.size).length) 0).toArray w' :=
  AnyE.slices_Compact Tryz.layDayCmp eDd (fun _ => rfl) (EqlAt.intD _ _ _) (NeqAt.intD _ _ _) 0 Tryz.zeroValue24 g off cap d w hH (by omega) hcap
def encDd (x : Int) : List Value := [.int .i64 x]
theorem encDd_len (x : Int) : (encDd x).length = 1 := rfl
theorem encDd_one (x : Int) : ∀ u ∈ encDd x, u.oneCell' = true := by
  intro u hu
  rw [List.mem_singleton.1 hu]; rfl
abbrev OwnDd (B : Nat) (v : Value) (l : List Int) (w : World) : Prop := Own encDd 1 24 B v l w
theorem rowOf_encDd (l : List Int) : rowOf encDd l = l.map eDd := by
  unfold rowOf encDd
  induction l with
  | nil => rfl
  | cons x l ih => rw [List.flatMap_cons, ih]; rfl
theorem OwnDd.holds {B g cap : Nat} {l : List Int} {w : World} (h : OwnDd B (.slice (some ⟨g, 0, none⟩) l.length cap) l w) : Holds eDd w g 0 l.toArray := by
  rcases h.2 with ⟨h1, _⟩ | ⟨g', cap', cur, hv, hb, hg, hn, hm, hs, ht⟩
  · cases h1
  · injection hv with h1 h2 h3
    injection h1 with h1
    injection h1 with h1
    subst h1; subst h3
    intro j hj
    have hj' : j < l.length := by simpa using hj
    have h2 : (cur.toList.take (l.length * 1))[j]? = some (eDd l[j]) := by rw [ht, rowOf_encDd, List.getElem?_map, List.getElem?_eq_getElem hj']; rfl
    rw [List.getElem?_take] at h2
    have h3 : cur[j]? = some (eDd l[j]) := by
      split at h2
      · simpa using h2
      · cases h2
    have e : l.toArray[j]! = l[j] := by rw [getElem!_pos l.toArray j hj]; simp
    rw [e, Nat.zero_add]
    exact ⟨by simp [World.cell?, hg, h3], by simp [World.frozen?, hg]⟩
theorem OwnDd.put {B g cap n : Nat} {l m z : List Int} {w w' : World} (h : OwnDd B (.slice (some ⟨g, 0, none⟩) l.length cap) l w) (hU : DG w g 0 (m ++ z).toArray w') (hl : m.length + z.length = l.length) (hn : n = m.length) : OwnDd B (.slice (some ⟨g, 0, none⟩) n cap) m w' := by
  subst hn
  rcases h.2 with ⟨h1, _⟩ | ⟨g', cap', cur, hv, hb, hg, hn, hm, hs, ht⟩
  · cases h1
  · injection hv with h1 h2 h3
    injection h1 with h1
    injection h1 with h1
    subst h1; subst h3
    have hk := hU.2
    rw [drow_block, hg] at hk
    refine ⟨by rw [rowOf_length encDd_len], .inr ⟨g, cap, putCells eDd 0 (m ++ z).toArray cur, rfl, hb, hk, by omega, hm, by simp [putCells, hs], ?_⟩⟩
    rw [rowOf_encDd, Nat.mul_one]
    apply List.ext_getElem?
    intro i
    rw [List.getElem?_take, List.getElem?_map]
    by_cases hi : i < m.length
    · rw [if_pos hi]
      have hic : i < cur.size := by omega
      have e : ((m ++ z).toArray)[i]! = m[i] := by
        rw [getElem!_pos _ i (by simp; omega)]
        simp [List.getElem_append_left hi]
      simp only [putCells, Array.getElem?_toList, Array.getElem?_mapIdx, Array.getElem?_eq_getElem hic, Option.map_some, List.getElem?_eq_getElem hi]
      rw [if_pos ⟨Nat.zero_le _, by simp; omega⟩, Nat.sub_zero, e]
    · rw [if_neg hi, List.getElem?_eq_none (by omega)]; rfl
theorem dayInfo : (Tryz.prog.info? 24).map (fun i => (i.zero, i.size, i.bytes)) = some (some (.int .i64 0), 1, 8) := by kernel_rfl
theorem newsDd (x : Int) (w : World) : ∀ j u, (encDd x)[j]? = some u → (w.alloc (.cells #[.int .i64 x] 24)).cell? ⟨w.heap.size, j, none⟩ = some u := by
  intro j u hu
  have h := Bk.new w 24 #[.int .i64 x]
  rw [h.cell]
  simpa [encDd] using hu
theorem belowDd {B : Nat} {w0 w w' : World} {v : Value} {l : List Int} (h : Below B w0 w) (hB : B ≤ w.heap.size) (ho : OwnDd B v l w) (hg : w.grownBy w' v.ownBlock) : Below B w0 w' :=
  h.trans ⟨hg.os, hg.tape, hg.output, hg.size, fun i hi => hg.block i (by omega) (ho.far hi)⟩
theorem ownDd_below {B : Nat} {w w' : World} {v : Value} {l : List Int} (ho : OwnDd B v l w) (hb : Below w.heap.size w w') : OwnDd B v l w' :=
  ho.none_ ⟨hb.os, hb.tape, hb.output, hb.size, fun i hi _ => hb.block i hi⟩
theorem ownDd_base {B B' : Nat} {w : World} {v : Value} {l : List Int} (h : OwnDd B v l w) (hB : B' ≤ B) : OwnDd B' v l w := by
  rcases h with ⟨h1, h2⟩
  refine ⟨h1, ?_⟩
  rcases h2 with h0 | ⟨g, cap, cur, hv, hb, hr⟩
  · exact .inl h0
  · exact .inr ⟨g, cap, cur, hv, Nat.le_trans hB hb, hr⟩
theorem OwnDd.lt_ {B g n cap : Nat} {l : List Int} {w : World} (h : OwnDd B (.slice (some ⟨g, 0, none⟩) n cap) l w) : B ≤ g ∧ g < w.heap.size := Own.lt h rfl
theorem dd_SortO {B : Nat} {v : Value} {l : List Int} {w : World} (h : OwnDd B v l w) (hl : l.length ≤ 1000000) :
    Calls Tryz.prog 117 #[v] w fun e w' => e = .returned (.tuple #[]) ∧ OwnDd B v (l.mergeSort fun x y => decide (x ≤ y)) w' ∧ w.grownBy w' v.ownBlock := by
  rcases h.2 with ⟨rfl, h0⟩ | ⟨g, cap, cur, rfl, hb, hg, hn, hm, hs, ht⟩
  · have : l = [] := List.length_eq_zero_iff.1 h0
    subst this
    exact (dd_Sort0 none 0 w).mono fun e w' ⟨h1, h2⟩ => ⟨h1, by rw [h2, List.mergeSort_nil]; exact h, by rw [h2]; exact World.grownBy.refl _ _⟩
  · exact (dd_Sort g 0 cap l w h.holds h.lt_.2 hl).mono fun e w' ⟨h1, h2⟩ => ⟨h1, h.put (m := l.mergeSort fun x y => decide (x ≤ y)) (z := []) (by simpa using h2) (by simp) (by simp), h2.1⟩
theorem dd_CompactO {B : Nat} {v : Value} {l : List Int} {w : World} (h : OwnDd B v l w) (hl : l.length ≤ 1000000) :
    Calls Tryz.prog 118 #[v] w fun e w' => (∃ v', e = .returned v' ∧ OwnDd B v' (cmpct l) w') ∧ w.grownBy w' v.ownBlock := by
  rcases h.2 with ⟨rfl, h0⟩ | ⟨g, cap, cur, rfl, hb, hg, hn, hm, hs, ht⟩
  · have : l = [] := List.length_eq_zero_iff.1 h0
    subst this
    exact (dd_Compact0 none 0 w).mono fun e w' ⟨h1, h2⟩ => ⟨⟨_, h1, by rw [h2]; exact h⟩, by rw [h2]; exact World.grownBy.refl _ _⟩
  · have k := dd_Compact g 0 cap l.toArray w h.holds (by simpa using hl) (by simpa using hn)
    rw [compactUpTo_cmpct, List.size_toArray] at k
    refine k.mono fun e w' ⟨h1, h2⟩ => ⟨⟨_, h1, ?_⟩, (DG.ofRow h2).1⟩
    exact h.put (m := cmpct l) (z := List.replicate (l.length - (cmpct l).length) 0) (DG.ofRow h2) (by have := cmpct_len l; rw [List.length_replicate]; omega) rfl
def SlDd (w : World) (A : Option Addr) (m : List Int) : Prop := m ≠ [] → ∃ b off, A = some ⟨b, off, none⟩ ∧ ∀ (i : Nat) (x : Int), m[i]? = some x → w.cell? ⟨b, off + i, none⟩ = some (.int .i64 x)
theorem run_appDd {ty : TypeId} {B : Nat} {v : Value} {l m : List Int} {A : Option Addr} {cap : Nat} {W : World} (ho : OwnDd B v l W) (hs : SlDd W A m) (hn : l.length + m.length ≤ 1000000) (hB : B ≤ W.heap.size) :
    ∃ v' W', (Builtin.append_ #[56, 56] ty #[v, .slice A m.length cap]).run Tryz.prog W = .ok v' W' ∧ OwnDd B v' (l ++ m) W' ∧ W.grownBy W' v.ownBlock := by
  obtain ⟨i, hi1, hz, hsize, hby⟩ := info_parts dayInfo
  by_cases h0 : m = []
  · subst h0
    have hsl : ∃ b s c, v = .slice b s c ∧ s ≤ c := by
      rcases ho.2 with ⟨rfl, _⟩ | ⟨g, c, cur, rfl, _, _, h, _⟩
      · exact ⟨none, 0, 0, rfl, Nat.le_refl _⟩
      · exact ⟨_, _, _, rfl, h⟩
    obtain ⟨b, s, c, rfl, hsc⟩ := hsl
    refine ⟨.slice b s c, W, ?_, by simpa using ho, World.grownBy.refl _ _⟩
    refine run_append_nothing W _ _ ty _ i Tryz.underlying56 hi1 b s c hsc _ ?_
    cases A with
    | none => exact Src.ofNil W Tryz.underlying56 cap
    | some a => exact Src.ofSlice W Tryz.underlying56 a 0 cap [] (by simp) (fun j u hu => by simp at hu) (fun u hu => by cases hu)
  · obtain ⟨b, off, rfl, hc⟩ := hs h0
    obtain ⟨v', W', h1, h2, h3, _⟩ := run_append_own_at (P := Tryz.prog) (w := W) B 56 ty 24 i _ 1 8 Tryz.underlying56 hi1 hz hsize hby rfl (by omega) v l.length (rowOf encDd l) ho ⟨b, off, none⟩ m.length cap (rowOf encDd m) (rowOf_length encDd_len m) (fun j u hu => by
        rw [rowOf_encDd, List.getElem?_map] at hu
        cases hx : m[j]? with
        | none => rw [hx] at hu; cases hu
        | some x =>
          rw [hx] at hu
          have e : eDd x = u := by simpa using hu
          have h := hc j x hx
          rw [← e]
          unfold Addr.add
          split
          · rename_i hz0; subst hz0; simpa using h
          · simpa using h) (fun u hu => by
        rw [rowOf_encDd] at hu
        obtain ⟨x, _, rfl⟩ := List.mem_map.1 hu
        rfl) (by simp only [maxLen]; omega) (by omega) hB
    refine ⟨v', W', h1, ?_, h3⟩
    unfold OwnDd Own
    rw [List.length_append, rowOf_append]
    exact h2
theorem step_appDd {ops : Array Oper} {o : Oper} {a : Act} {K : Act → World → Prop} {Q : Exit → Act → World → Prop} {E : Prop} (hgd : o.guard = none) (s x : Operand)
    (hop : o.op = .call { callee := .builtin .append, args := #[s, x], argTypes := #[56, 56] })
    {B : Nat} {v : Value} {l m : List Int} {A : Option Addr} {n cap : Nat} {W : World} (hv : a.eval s = v) (hx : a.eval x = .slice A n cap) (hm : m.length = n) (ho : OwnDd B v l W) (hs : SlDd W A m) (hn : l.length + m.length ≤ 1000000) (hB : B ≤ W.heap.size)
    (h : ∀ v' W', OwnDd B v' (l ++ m) W' → W.grownBy W' v.ownBlock → K (a.put o.dst v') W') :
    if Region.wanted o (yielded ops a.tmps) = true then Oper.wp Tryz.prog o a W K Q else E := by
  have hw : Region.wanted o (yielded ops a.tmps) = true := by simp [Region.wanted, hgd]
  rw [if_pos hw]
  subst hm
  obtain ⟨v', W', hr, h2, h3⟩ := run_appDd (ty := o.type) (cap := cap) ho hs hn hB
  unfold Oper.wp execOp
  simp only [hop, resolve, invoke, builtin, Sem.run_bind, Sem.run_pure, Result.andThen_ok, List.map_toArray, List.map_cons, List.map_nil, hv, hx, hr]
  exact h v' W' h2 h3
theorem wp_appDd {ops : Array Oper} {rest : List Oper} {o : Oper} {a : Act} {Q : Exit → Act → World → Prop} (hgd : o.guard = none) (s x : Operand)
    (hop : o.op = .call { callee := .builtin .append, args := #[s, x], argTypes := #[56, 56] })
    {B : Nat} {v : Value} {l m : List Int} {A : Option Addr} {n cap : Nat} {W : World} (hv : a.eval s = v) (hx : a.eval x = .slice A n cap) (hm : m.length = n) (ho : OwnDd B v l W) (hs : SlDd W A m) (hn : l.length + m.length ≤ 1000000) (hB : B ≤ W.heap.size)
    (h : ∀ v' W', OwnDd B v' (l ++ m) W' → W.grownBy W' v.ownBlock → wpList Tryz.prog ops Q rest (a.put o.dst v') W') : wpList Tryz.prog ops Q (o :: rest) a W :=
  wpList_plain hgd fun _ hK => by
    subst hm
    obtain ⟨v', W', hr, h2, h3⟩ := run_appDd (ty := o.type) (cap := cap) ho hs hn hB
    unfold Oper.wp execOp
    simp only [hop, resolve, invoke, builtin, Sem.run_bind, Sem.run_pure, Result.andThen_ok, List.map_toArray, List.map_cons, List.map_nil, hv, hx, hr]
    exact hK _ _ (h v' W' h2 h3)
theorem OwnDd.empty {W : World} {h B : Nat} (hE : Bk h 24 #[] W) (hb : B ≤ h) : OwnDd B (.slice (some ⟨h, 0, none⟩) 0 0) [] W :=
  ⟨rfl, .inr ⟨h, 0, #[], rfl, hb, hE, Nat.le_refl _, by simp [maxLen], rfl, rfl⟩⟩
theorem SlDd.one {W : World} {b : Nat} {x : Int} {t : TypeId} (h : Bk b t #[.int .i64 x] W) : SlDd W (some ⟨b, 0, none⟩) [x] := by
  intro _
  refine ⟨b, 0, rfl, fun i y hy => ?_⟩
  have hi : i = 0 := by
    have := (List.getElem?_eq_some_iff.1 hy).1
    simp at this; omega
  subst hi
  have : y = x := by simpa using hy.symm
  subst this
  exact h.cell 0
theorem OwnDd.shape {B : Nat} {v : Value} {l : List Int} {w : World} (h : OwnDd B v l w) : (v = .slice none 0 0 ∧ l = []) ∨ ∃ g cap, v = .slice (some ⟨g, 0, none⟩) l.length cap ∧ B ≤ g ∧ g < w.heap.size ∧ l.length ≤ cap ∧ ∀ (i : Nat) (x : Int), l[i]? = some x → w.cell? ⟨g, i, none⟩ = some (.int .i64 x) := by
  rcases h.2 with ⟨rfl, h0⟩ | ⟨g, cap, cur, rfl, hb, hg, hn, hm, hs, ht⟩
  · exact .inl ⟨rfl, List.length_eq_zero_iff.1 h0⟩
  · refine .inr ⟨g, cap, rfl, hb, h.lt_.2, hn, fun i x hx => ?_⟩
    have hi := (List.getElem?_eq_some_iff.1 hx).1
    have k := (h.holds i (by simpa using hi)).1
    rw [getElem!_pos l.toArray i (by simpa using hi), Nat.zero_add] at k
    have e : l.toArray[i]'(by simpa using hi) = x := by
      have := (List.getElem?_eq_some_iff.1 hx).2
      simpa using this
    rw [e] at k
    exact k
theorem SlDd.take_ {w : World} {g off : Nat} {l : List Int} (h : ∀ (i : Nat) (x : Int), l[i]? = some x → w.cell? ⟨g, off + i, none⟩ = some (.int .i64 x)) (k : Nat) : SlDd w (some ⟨g, off, none⟩) (l.take k) := fun _ => ⟨g, off, rfl, fun i x hx => h i x (by
  rw [List.getElem?_take] at hx
  split at hx
  · exact hx
  · cases hx)⟩
theorem SlDd.drop_ {w : World} {g off : Nat} {l : List Int} (h : ∀ (i : Nat) (x : Int), l[i]? = some x → w.cell? ⟨g, off + i, none⟩ = some (.int .i64 x)) (k : Nat) : SlDd w (some ⟨g, off + k, none⟩) (l.drop k) := fun _ => ⟨g, off + k, rfl, fun i x hx => by
  rw [List.getElem?_drop] at hx
  rw [Nat.add_assoc]
  exact h _ x hx⟩
theorem SlDd.nil {w : World} {A : Option Addr} {l : List Int} (h : l = []) : SlDd w A l := fun hl => absurd h hl
theorem SlDd.below {w w' : World} {B : Nat} {A : Option Addr} {m : List Int} (h : SlDd w A m) (hA : ∀ b off, A = some ⟨b, off, none⟩ → b < B) (hb : Below B w w') : SlDd w' A m := fun hm => by
  obtain ⟨b, off, e, hc⟩ := h hm
  exact ⟨b, off, e, fun i x hx => (hb.cell (p := ⟨b, off + i, none⟩) (hA b off e)).trans (hc i x hx)⟩
end Go.Proofs.YtmngghglcgmkeaaGreatDoor
