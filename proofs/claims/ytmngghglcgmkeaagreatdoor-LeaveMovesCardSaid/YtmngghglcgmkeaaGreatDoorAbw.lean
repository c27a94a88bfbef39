/- Merged from: Aba Abb Abc Abd. -/
import Derived.Test.YtmngghglcgmkeaaGreatDoorWkm
import Derived.Test.YtmngghglcgmkeaaGreatDoorTma
namespace Go.Proofs.YtmngghglcgmkeaaGreatDoor
open Go.RowKit Go.Sort

theorem own_sortK {B g cap n : Nat} {l m : List Spn} {os : Array Obj} {w : World} (h : OwnSp B (.slice (some ⟨g, 0, none⟩) l.length cap) l w) (hl : m.length = l.length) (hg : g < w.heap.size) :
    OwnSp B (.slice (some ⟨g, 0, none⟩) l.length cap) m (sortWorldK encSp 2 w g 0 n m.toArray os) ∧ w.grownBy (sortWorldK encSp 2 w g 0 n m.toArray os) (some g) := by
  have hsz : g < (putRowK encSp 2 (Sort.ahead w n) g 0 m.toArray).heap.size := by
    show g < (putRow id (Sort.ahead w n) g 0 (flatK encSp 2 m.toArray)).heap.size
    simp [putRow, mapBlock]
    exact hg
  have hhp : (sortWorldK encSp 2 w g 0 n m.toArray os).heap[g]? = w.heap[g]?.map (onCells (putCells id 0 (flatK encSp 2 m.toArray))) := by
    show (grow (putRowK encSp 2 (Sort.ahead w n) g 0 m.toArray) os).heap[g]? = _
    simp only [grow]
    rw [Array.getElem?_append_left hsz]
    show (putRow id (Sort.ahead w n) g 0 (flatK encSp 2 m.toArray)).heap[g]? = _
    simp [putRow, mapBlock, Array.getElem?_modify]
  refine ⟨?_, ?_⟩
  · rcases h.2 with ⟨h1, _⟩ | ⟨g', cap', cur, hv, hb, hgc, hn, hm, hs, ht⟩
    · cases h1
    · injection hv with h1 h2 h3
      injection h1 with h1
      injection h1 with h1
      subst h1; subst h3
      rw [hgc] at hhp
      have hml : (rowOf encSp m).length = m.length * 2 := rowOf_length encSp_len m
      show World.ownsRow _ _ _ _ _ m.length (rowOf encSp m)
      refine ⟨hml, .inr ⟨g, cap, putCells id 0 (flatK encSp 2 m.toArray) cur, by rw [hl], hb, hhp, by omega, hm, by simp [putCells, hs], ?_⟩⟩
      apply List.ext_getElem?
      intro i
      rw [List.getElem?_take]
      by_cases hi : i < m.length * 2
      · rw [if_pos hi]
        have hic : i < cur.size := by omega
        have hd : i / 2 < m.length := by omega
        have hm2 : i % 2 < 2 := Nat.mod_lt _ (by decide)
        have hx : m[i / 2]? = some m[i / 2] := List.getElem?_eq_getElem hd
        have e : m.toArray[i / 2]! = m[i / 2] := by rw [getElem!_pos m.toArray _ (by simpa using hd)]; simp
        have hu : (encSp m[i / 2])[i % 2]? = some (encSp m[i / 2])[i % 2]! := by
          rw [List.getElem?_eq_getElem (by rw [encSp_len]; exact hm2), getElem!_pos (encSp m[i / 2]) (i % 2) (by rw [encSp_len]; exact hm2)]
        have hr := rowOf_get encSp_len m _ _ hx _ _ hu
        rw [show i / 2 * 2 + i % 2 = i by omega] at hr
        rw [hr]
        simp only [putCells, Array.getElem?_toList, Array.getElem?_mapIdx, Array.getElem?_eq_getElem hic, Option.map_some]
        rw [if_pos ⟨Nat.zero_le _, by simp; omega⟩, Nat.sub_zero, get_flatK _ _ _ _ (by simpa using hi), e]
        rfl
      · rw [if_neg hi, List.getElem?_eq_none (by omega)]
  · have k : w.grownBy (putRowK encSp 2 (Sort.ahead w n) g 0 m.toArray) (some g) :=
      ⟨rfl, rfl, rfl, by simp [putRowK, putRow, mapBlock, Sort.ahead], fun k _ hk => by
        have hne : g ≠ k := fun h => hk (by rw [h])
        simp [putRowK, putRow, mapBlock, Array.getElem?_modify, hne, Sort.ahead]⟩
    refine ⟨k.os, k.tape, k.output, ?_, fun i hi hn => ?_⟩
    · exact Nat.le_trans k.size (by simp only [sortWorldK, grow, Array.size_append]; exact Nat.le_add_right _ _)
    · have := k.block i hi hn
      simp only [sortWorldK, grow]
      rw [Array.getElem?_append_left (Nat.lt_of_lt_of_le hi k.size)]
      exact this
theorem ab_cmp (x y : Spn) (w : World) : Calls Tryz.prog 109 #[.agg (encSp x).toArray, .agg (encSp y).toArray] w fun e w' => e = .returned (.int .i64 (cfD x.1 y.1)) ∧ ∃ q os', w' = grow (w.drewN q) os' := by
  show Calls Tryz.prog 109 #[.agg #[.int .i64 x.1, .int .i64 x.2], .agg #[.int .i64 y.1, .int .i64 y.2]] w _
  go_enter Tryz.func109, Tryz.ntmps109
  go_wp2_with fail
  refine (dd_Compare x.1 y.1 _).mono ?_
  rintro e w1 ⟨rfl, rfl⟩
  go_wp2
  go_ret
  refine ⟨rfl, 0, #[.cells #[.int .i64 x.1, .int .i64 x.2] 28, .cells #[.int .i64 y.1, .int .i64 y.2] 28], ?_⟩
  rw [alloc_eq_grow, alloc_eq_grow, grow_grow]
  rfl
/-- The same spans, in order. -/
def SrtS (l m : List Spn) : Prop := m.Perm l ∧ m.Pairwise fun x y => x.1 ≤ y.1
theorem ab_Sort {B : Nat} {v : Value} {l : List Spn} {w : World} (h : OwnSp B v l w) (hl : l.length ≤ 1000000) :
    Calls Tryz.prog 108 #[v, .func (.func 109) #[] #[]] w fun e w' => e = .returned (.tuple #[]) ∧ ∃ m, SrtS l m ∧ OwnSp B v m w' ∧ w.grownBy w' v.ownBlock := by
  by_cases hne : l = []
  · subst hne
    obtain ⟨A, cp, rfl, _, _⟩ := own_sl encSp_len h
    exact (AnyF.slices_SortFunc_none Tryz.laySpanSort A cp _ w).mono fun e w' ⟨h1, h2⟩ => ⟨h1, [], ⟨.refl _, .nil⟩, by rw [h2]; exact h, by rw [h2]; exact World.grownBy.refl _ _⟩
  · obtain ⟨g, cap, rfl, hb, hr⟩ := Own.row encSp_len h hne
    have hH := holdsSp hr
    have k := AnyQ.slices_SortFunc Tryz.laySpanSort 2 Tryz.isAgg28 Tryz.sizeOf28 encSp encSp_len encSp_one (fun x y : Spn => cfD x.1 y.1) swo_cf 109 #[] g 0 cap l.toArray w (enters_of Tryz.func109 (by kernel_rfl) rfl) (fun m os dk _ x y => ab_cmp x y _) hH hr.lt (by simp; omega)
    rw [List.size_toArray] at k
    refine k.mono fun e w' ⟨h1, d', n, os, hp, hs, hw⟩ => ⟨h1, d'.toList, ⟨?_, ?_⟩, ?_⟩
    · obtain ⟨p1, _, p3⟩ := hp
      have e1 : d'.extract 0 l.length = d' := by rw [← show d'.size = l.length by rw [p1]; simp, Array.extract_size]
      have e2 : (l.toArray.extract 0 l.length).toList = l := by simp
      rw [e1, e2] at p3
      exact p3
    · have p1 : d'.size = l.length := by rw [hp.1]; simp
      rw [List.pairwise_iff_getElem]
      intro i j hi hj hij
      have h2 := hs i j (Nat.zero_le _) hij (by rw [← p1]; simpa using hj)
      rw [getElem!_pos d' i (by simpa using hi), getElem!_pos d' j (by simpa using hj)] at h2
      unfold ltOf cfD at h2
      simp only [Array.getElem_toList]
      by_cases h3 : (d'[j]).1 < (d'[i]).1
      · simp [h3] at h2
      · omega
    · have p1 : d'.toList.length = l.length := by rw [Array.length_toList, hp.1]; simp
      have k2 := own_sortK (n := n) (os := os) h p1 hr.lt
      rw [hw]
      exact k2
end Go.Proofs.YtmngghglcgmkeaaGreatDoor

namespace Go.Proofs.YtmngghglcgmkeaaGreatDoor
open Go.RowKit Go.Sort

/-- An absence. -/
structure Ab where
  fr : Int
  «to» : Int
  ki : Int
  pa : Int
  nn : Int
def encAb (x : Ab) : List Value := [.int .i64 x.fr, .int .i64 x.to, .int .i64 x.ki, .int .i64 x.pa, .int .i64 x.nn]
theorem encAb_len (x : Ab) : (encAb x).length = 5 := rfl
theorem encAb_one (x : Ab) : ∀ u ∈ encAb x, u.oneCell' = true := by
  intro u hu
  simp [encAb] at hu
  rcases hu with rfl | rfl | rfl | rfl | rfl <;> rfl
def selA (l : List Ab) (F U k : Int) : List Spn := l.filterMap fun x => if x.ki = k then some (max x.fr F, min x.to U) else none
theorem selA_take {l : List Ab} {i : Nat} {x : Ab} (F U k : Int) (h : l[i]? = some x) : selA (l.take (i + 1)) F U k = selA (l.take i) F U k ++ (if x.ki = k then [(max x.fr F, min x.to U)] else []) := by
  unfold selA
  rw [List.take_add_one, h, Option.toList_some, List.filterMap_append]
  congr 1
  by_cases hk : x.ki = k <;> simp [hk]
theorem selA_len (l : List Ab) (F U k : Int) : (selA l F U k).length ≤ l.length := List.length_filterMap_le _ _
def endP (e : Int) (P : List Spn) : Int := P.foldl (fun e p => max e p.2) e
def cutP (e : Int) : List Spn → List Spn
  | [] => []
  | p :: P => (max p.1 e, p.2) :: cutP (max e p.2) P
theorem cutP_len : ∀ (P : List Spn) (e : Int), (cutP e P).length = P.length
  | [], _ => rfl
  | p :: P, e => by rw [cutP, List.length_cons, cutP_len P, List.length_cons]
theorem cutP_snoc (p : Spn) : ∀ (P : List Spn) (e : Int), cutP e (P ++ [p]) = cutP e P ++ [(max p.1 (endP e P), p.2)]
  | [], e => rfl
  | q :: P, e => by
    rw [List.cons_append, cutP, cutP_snoc p P, cutP, List.cons_append]
    rfl
def cutL (F : Int) (m : List Spn) (k : Nat) : List Spn := cutP F (m.take k) ++ m.drop k
theorem cutL_zero (F : Int) (m : List Spn) : cutL F m 0 = m := rfl
theorem cutL_all (F : Int) (m : List Spn) : cutL F m m.length = cutP F m := by
  unfold cutL
  rw [List.take_length, List.drop_length, List.append_nil]
theorem cutL_len (F : Int) (m : List Spn) (k : Nat) : (cutL F m k).length = m.length := by
  unfold cutL
  rw [List.length_append, cutP_len, ← List.length_append, List.take_append_drop]
theorem cutL_at {F : Int} {m : List Spn} {k : Nat} {p : Spn} (h : m[k]? = some p) : (cutL F m k)[k]? = some p := by
  have hk := (List.getElem?_eq_some_iff.1 h).1
  unfold cutL
  rw [List.getElem?_append_right (by rw [cutP_len, List.length_take]; omega), cutP_len, List.length_take, Nat.min_eq_left (by omega), Nat.sub_self, List.getElem?_drop, Nat.add_zero]
  exact h
theorem cutL_succ {F : Int} {m : List Spn} {k : Nat} {p : Spn} (h : m[k]? = some p) : (cutL F m k).set k (max p.1 (endP F (m.take k)), p.2) = cutL F m (k + 1) := by
  have hk := List.getElem?_eq_some_iff.1 h
  have hl : (cutP F (m.take k)).length = k := by rw [cutP_len, List.length_take]; have := hk.1; omega
  unfold cutL
  rw [List.set_append_right _ _ (by omega), hl, Nat.sub_self, List.drop_eq_getElem_cons hk.1, List.set_cons_zero, List.take_add_one, h, Option.toList_some, cutP_snoc, List.append_assoc]
  rfl
theorem endP_succ {F : Int} {m : List Spn} {k : Nat} {p : Spn} (h : m[k]? = some p) : endP F (m.take (k + 1)) = max (endP F (m.take k)) p.2 := by
  unfold endP
  rw [List.take_add_one, h, Option.toList_some, List.foldl_append]
  rfl
theorem rowSet : ∀ (L : List Spn) (i : Nat) (a y x : Int), L[i]? = some (a, y) → (rowOf encSp L).set (i * 2) (.int .i64 x) = rowOf encSp (L.set i (x, y))
  | [], i, a, y, x, h => by simp at h
  | p :: L, 0, a, y, x, h => by
    simp at h
    subst h
    rfl
  | p :: L, i + 1, a, y, x, h => by
    have ih := rowSet L i a y x (by simpa using h)
    have e1 : rowOf encSp (p :: L) = encSp p ++ rowOf encSp L := rfl
    rw [e1, List.set_append_right _ _ (by rw [encSp_len]; omega), encSp_len, show (i + 1) * 2 - 2 = i * 2 by omega, ih]
    rfl
theorem ownSp_lower {B B' : Nat} {w : World} {v : Value} {l : List Spn} (h : OwnSp B v l w) (hB : B' ≤ B) : OwnSp B' v l w := by
  rcases h with ⟨h1, h2⟩
  refine ⟨h1, ?_⟩
  rcases h2 with h0 | ⟨g, cap, cur, hv, hb, hr⟩
  · exact .inl h0
  · exact .inr ⟨g, cap, cur, hv, Nat.le_trans hB hb, hr⟩
theorem ownSp_set {B g cap : Nat} {L : List Spn} {i : Nat} {a y x : Int} {w : World} (h : OwnSp B (.slice (some ⟨g, 0, none⟩) L.length cap) L w) (hi : L[i]? = some (a, y)) :
    OwnSp B (.slice (some ⟨g, 0, none⟩) L.length cap) (L.set i (x, y)) (w.setCell ⟨g, i * 2, none⟩ (.int .i64 x)) ∧ w.frozen? ⟨g, i * 2, none⟩ = false := by
  have hrow : w.ownsRow B 28 2 (.slice (some ⟨g, 0, none⟩) L.length cap) L.length (rowOf encSp L) := h
  refine ⟨?_, World.ownsRow.frozenAt hrow (i * 2)⟩
  have hst := World.ownsRow.stored hrow (i * 2) (.int .i64 x)
  rw [rowSet L i a y x hi] at hst
  show World.ownsRow _ _ _ _ _ (L.set i (x, y)).length _
  rw [List.length_set]
  exact hst.1
set_option maxHeartbeats 4000000 in
set_option maxRecDepth 100000 in
theorem ab_parts (l : List Ab) (A : Option Addr) (c : Nat) (F U k : Int) (w : World) (hl : l.length ≤ 100000) (hs : Sl encAb 5 w w.heap.size A l) :
    Calls Tryz.prog 75 #[.slice A l.length c, .agg #[.int .i64 F, .int .i64 U], .int .i64 k] w fun e w' => ∃ (m : List Spn) (A' : Option Addr) (c' : Nat), SrtS (selA l F U k) m ∧ e = .returned (.slice A' m.length c') ∧ OwnSp w.heap.size (.slice A' m.length c') (cutP F m) w' ∧ Below w.heap.size w w' := by
  obtain ⟨sb, hsb⟩ : ∃ z, w.heap.size = z := ⟨_, rfl⟩
  obtain ⟨w2, hw2⟩ : ∃ z, w.alloc (.cells #[.int .i64 F, .int .i64 U] 28) = z := ⟨_, rfl⟩
  have hb2 : Below w.heap.size w w2 := by rw [← hw2]; exact bAlloc _ _
  have HB2 := Lib.hid hb2
  have HK2 : Hid (Bk sb 28 #[.int .i64 F, .int .i64 U] w2) := Lib.hid (by rw [← hw2, ← hsb]; exact Bk.new _ _ _)
  have HS2 := Lib.hid (sl_bel hs hb2)
  have HSZ2 : Hid (w2.heap.size = w.heap.size + 1) := Lib.hid (by rw [← hw2]; simp)
  have HE := Lib.hid (And.intro hsb hw2)
  clear hs hb2 hw2 hsb
  go_enter Tryz.func75, Tryz.ntmps75
  go_upto_region 1 with fail
  rw [HE.out.1, HE.out.2]
  have HE0 := HE.out.1
  clear HE
  go_wp2
  go_loopw [7, 15] (fun ov iv wr => ∃ i : Nat, i ≤ l.length ∧ iv = .int .i64 i ∧ (∃ A' c', ov = .slice A' (selA (l.take i) F U k).length c' ∧ Hid (OwnSp w2.heap.size (.slice A' (selA (l.take i) F U k).length c') (selA (l.take i) F U k) wr)) ∧ Hid (Below w2.heap.size w2 wr)) (fun _ iv _ => l.length - (intOf iv).toNat)
  case atStart => exact ⟨0, Nat.zero_le _, rfl, ⟨none, 0, rfl, Lib.hid (Own.nil _)⟩, Lib.hid (Below.refl _ _)⟩
  case round =>
    obtain ⟨i, hi, rfl, ⟨Ao, co, rfl, HO⟩, HB⟩ := hrel
    by_cases hlt : i < l.length
    · obtain ⟨⟨xf, xt, xk, xp, xn⟩, hx⟩ : ∃ x, l[i]? = some x := ⟨_, List.getElem?_eq_getElem hlt⟩
      obtain ⟨g, o, rfl, _, hat⟩ := HS2.out (by intro h; simp [h] at hx)
      have C0 : wr.cell? ⟨g, o + i * 5, none⟩ = some (.int .i64 xf) := bCell HB.out (hat i _ hx 0 _ rfl)
      have C1 : wr.cell? ⟨g, o + i * 5 + 1, none⟩ = some (.int .i64 xt) := bCell HB.out (hat i _ hx 1 _ rfl)
      have C2 : wr.cell? ⟨g, o + i * 5 + 2, none⟩ = some (.int .i64 xk) := bCell HB.out (hat i _ hx 2 _ rfl)
      have C3 : wr.cell? ⟨g, o + i * 5 + 3, none⟩ = some (.int .i64 xp) := bCell HB.out (hat i _ hx 3 _ rfl)
      have C4 : wr.cell? ⟨g, o + i * 5 + 4, none⟩ = some (.int .i64 xn) := bCell HB.out (hat i _ hx 4 _ rfl)
      have HST := Lib.hid (selA_take F U k hx)
      have hsl : (selA (l.take i) F U k).length ≤ 100000 := by
        have h1 := selA_len (l.take i) F U k
        rw [List.length_take] at h1
        omega
      obtain ⟨S, hS⟩ : ∃ S, selA (l.take i) F U k = S := ⟨_, rfl⟩
      rw [hS] at HST HO hsl ⊢
      obtain ⟨xb, hxb⟩ : ∃ z, wr.heap.size = z := ⟨_, rfl⟩
      obtain ⟨wx, hwx⟩ : ∃ z, wr.alloc (.cells #[.int .i64 xf, .int .i64 xt, .int .i64 xk, .int .i64 xp, .int .i64 xn] 48) = z := ⟨_, rfl⟩
      have hbx : Below wr.heap.size wr wx := by rw [← hwx]; exact bAlloc _ _
      have hkx : Bk xb 48 #[.int .i64 xf, .int .i64 xt, .int .i64 xk, .int .i64 xp, .int .i64 xn] wx := by rw [← hwx, ← hxb]; exact Bk.new _ _ _
      have HOX : Hid (OwnSp w2.heap.size (.slice Ao S.length co) S wx) := Lib.hid (own_bel HO.out hbx)
      have HBX : Hid (Below w2.heap.size w2 wx) := Lib.hid (bTrans HB.out hbx)
      have X0 : wx.cell? ⟨xb, 0, none⟩ = some (.int .i64 xf) := hkx.cell 0
      have X1 : wx.cell? ⟨xb, 1, none⟩ = some (.int .i64 xt) := hkx.cell 1
      have X2 : wx.cell? ⟨xb, 2, none⟩ = some (.int .i64 xk) := hkx.cell 2
      have S0 : wx.cell? ⟨sb, 0, none⟩ = some (.int .i64 F) := bCell HBX.out (HK2.out.cell 0)
      have S1 : wx.cell? ⟨sb, 1, none⟩ = some (.int .i64 U) := bCell HBX.out (HK2.out.cell 1)
      have HE := Lib.hid (And.intro hxb hwx)
      have hlt2 : (i : Int) < (l.length : Int) := by omega
      clear hx hat hxb hwx hbx hkx HB HO hS
      go_upto_region 5 with fail
      rw [HE.out.1, HE.out.2]
      clear HE C0 C1 C2 C3 C4
      by_cases hki : xk = k
      · have HSN : Hid (selA (l.take (i + 1)) F U k = S ++ [(max xf F, min xt U)]) := Lib.hid (by rw [HST.out, if_pos hki])
        have HSL : Hid ((S ++ [(max xf F, min xt U)]).length = S.length + 1) := Lib.hid (by simp)
        subst hki
        have HZX : Hid (w2.heap.size ≤ wx.heap.size) := Lib.hid HBX.out.size
        go_upto_region 6 with fail
        go_wp2_with ((at_builtin; refine wpList_append_row encSp_len encSp_one rfl _ _ 146 rfl w2.heap.size 28 _ 16 Tryz.underlying146 spanInfo rfl (by decide) _ S (max xf F, min xt U) rfl (HOX.out.alloc _) wx.heap.size 1 rfl (newsSp (max xf F, min xt U) wx) (by omega) (by decide) (Nat.le_trans HZX.out (Grows.of_alloc wx _).size) ?_))
        intro v9 w9 hown9 hgr9
        have HB9 : Hid (Below w2.heap.size w2 w9) := Lib.hid (belowSp (HBX.out.trans ((bAlloc wx _).mono HZX.out)) (Nat.le_trans HZX.out (Grows.of_alloc wx _).size) (HOX.out.alloc _) hgr9)
        obtain ⟨A9, c9, rfl, _, _⟩ := own_sl encSp_len hown9
        rw [HSL.out] at hown9 ⊢
        have HO9 := Lib.hid hown9
        clear hown9 hgr9 X0 X1 X2 S0 S1
        go_wp2
        exact ⟨⟨i + 1, by omega, by go_num, by rw [HSN.out, HSL.out]; exact ⟨A9, c9, rfl, HO9⟩, HB9⟩, by simp [intOf]; omega⟩
      · have HSN : Hid (selA (l.take (i + 1)) F U k = S) := Lib.hid (by rw [HST.out, if_neg hki, List.append_nil])
        have hkq : (xk == k) = false := beq_eq_false_iff_ne.2 hki
        go_wp2
        exact ⟨⟨i + 1, by omega, by go_num, by rw [HSN.out]; exact ⟨Ao, co, rfl, HOX⟩, HBX⟩, by simp [intOf]; omega⟩
    · obtain rfl : i = l.length := by omega
      rw [List.take_length] at HO ⊢
      obtain ⟨S, hS⟩ : ∃ S, selA l F U k = S := ⟨_, rfl⟩
      have hsl : S.length ≤ 100000 := by have := selA_len l F U k; rw [hS] at this; omega
      rw [hS] at HO ⊢
      have HSO := Lib.hid (ab_Sort HO.out (by omega))
      have HSB := Lib.hid hS
      clear hlt hS
      go_wp2_with fail
      refine HSO.out.mono ?_
      rintro e w9 ⟨rfl, m, hm, ho9, hg9⟩
      have hml : m.length = S.length := hm.1.length_eq
      have HB9 : Hid (Below w2.heap.size w2 w9) := Lib.hid (belowSp HB.out HB.out.size HO.out hg9)
      have HM := Lib.hid hm
      have HO9 : Hid (OwnSp w2.heap.size (.slice Ao S.length co) m w9) := Lib.hid ho9
      have S0 : w9.cell? ⟨sb, 0, none⟩ = some (.int .i64 F) := bCell HB9.out (HK2.out.cell 0)
      clear hm ho9 hg9 HSO HB HO
      go_wp2
      clear S0
      go_loopw [10, 46] (fun ev kv wr => ∃ k2 : Nat, k2 ≤ S.length ∧ kv = .int .i64 k2 ∧ (∃ E : Int, ev = .int .i64 E ∧ Hid (endP F (m.take k2) = E)) ∧ Hid (OwnSp w2.heap.size (.slice Ao S.length co) (cutL F m k2) wr) ∧ Hid (Below w2.heap.size w2 wr)) (fun _ kv _ => S.length - (intOf kv).toNat)
      case atStart => exact ⟨0, Nat.zero_le _, rfl, ⟨F, rfl, Lib.hid rfl⟩, HO9, HB9⟩
      case round =>
        obtain ⟨i, hi, rfl, ⟨E, rfl, HEN⟩, HO, HB⟩ := hrel
        by_cases hlt : i < S.length
        · obtain ⟨⟨p1, p2⟩, hx⟩ : ∃ x, m[i]? = some x := ⟨_, List.getElem?_eq_getElem (by omega)⟩
          have hne : cutL F m i ≠ [] := by
            intro h
            have := cutL_len F m i
            rw [h] at this
            simp at this
            omega
          obtain ⟨g, cap, hv, hbg, hr⟩ := Own.row encSp_len HO.out hne
          injection hv with hv1 hv2 hv3
          subst hv1
          subst hv3
          have hat := cutL_at (F := F) hx
          have C0 : wr.cell? ⟨g, i * 2, none⟩ = some (.int .i64 p1) := hr.cell hat (j := 0) rfl
          have C1 : wr.cell? ⟨g, i * 2 + 1, none⟩ = some (.int .i64 p2) := hr.cell hat (j := 1) rfl
          have HSU := Lib.hid (cutL_succ (F := F) hx)
          have HEU := Lib.hid (endP_succ (F := F) hx)
          rw [HEN.out] at HSU HEU
          obtain ⟨xb, hxb⟩ : ∃ z, wr.heap.size = z := ⟨_, rfl⟩
          obtain ⟨wx, hwx⟩ : ∃ z, wr.alloc (.cells #[.int .i64 p1, .int .i64 p2] 28) = z := ⟨_, rfl⟩
          have hbx : Below wr.heap.size wr wx := by rw [← hwx]; exact bAlloc _ _
          have hkx : Bk xb 28 #[.int .i64 p1, .int .i64 p2] wx := by rw [← hwx, ← hxb]; exact Bk.new _ _ _
          have hox : OwnSp w2.heap.size (.slice (some ⟨g, 0, none⟩) (cutL F m i).length co) (cutL F m i) wx := by
            rw [cutL_len, hml]
            exact own_bel HO.out hbx
          obtain ⟨hst, F0⟩ := ownSp_set (x := max p1 E) hox hat
          rw [HSU.out, cutL_len, hml] at hst
          have hgx : g < xb := by rw [← hxb]; exact hr.lt
          have HBX : Hid (Below w2.heap.size w2 (wx.setCell ⟨g, i * 2, none⟩ (.int .i64 (max p1 E)))) := Lib.hid ((bTrans HB.out hbx).setCell (p := ⟨g, i * 2, none⟩) hbg _)
          have HOX := Lib.hid hst
          have X0 : wx.cell? ⟨xb, 0, none⟩ = some (.int .i64 p1) := hkx.cell 0
          have X1 : (wx.setCell ⟨g, i * 2, none⟩ (.int .i64 (max p1 E))).cell? ⟨xb, 1, none⟩ = some (.int .i64 p2) := by
            rw [World.cell?_setCell_other _ _ _ _ (by intro h; simp only [Addr.mk.injEq] at h; omega)]
            exact hkx.cell 1
          have D0 : wx.cell? ⟨g, i * 2, none⟩ = some (.int .i64 p1) := bCell hbx C0
          have HE := Lib.hid (And.intro hxb hwx)
          have hlt2 : (i : Int) < (S.length : Int) := by omega
          clear hx hat hxb hwx hbx hkx hst hox HB HO hne hr hbg
          go_upto_region 13 with fail
          rw [HE.out.1, HE.out.2]
          clear HE C0 C1
          go_upto_region 14 with fail
          obtain ⟨wy, hwy⟩ : ∃ z, wx.setCell ⟨g, i * 2, none⟩ (.int .i64 (max p1 E)) = z := ⟨_, rfl⟩
          rw [hwy] at HBX HOX X1 ⊢
          clear hwy X0 D0 F0
          go_wp2
          exact ⟨⟨i + 1, by omega, by go_num, ⟨max E p2, rfl, HEU⟩, HOX, HBX⟩, by simp [intOf]; omega⟩
        · obtain rfl : i = S.length := by omega
          have HFI : Hid (∃ (m : List Spn) (A' : Option Addr) (c' : Nat), SrtS (selA l F U k) m ∧ Ending.returned (.slice Ao S.length co) = .returned (.slice A' m.length c') ∧ OwnSp w.heap.size (.slice A' m.length c') (cutP F m) wr ∧ Below w.heap.size w wr) := Lib.hid ⟨m, Ao, co, by rw [HSB.out]; exact HM.out, by rw [hml], by
            have h := HO.out
            rw [← hml, cutL_all] at h
            exact ownSp_lower h (by rw [HSZ2.out]; omega), bTrans HB2.out HB.out⟩
          clear hlt
          go_wp2
          go_ret
          exact HFI.out
end Go.Proofs.YtmngghglcgmkeaaGreatDoor

namespace Go.Proofs.YtmngghglcgmkeaaGreatDoor
open Go.RowKit Go.Sort

def SU (g : Int → Int) (a b : Int) : Int := sumD g a (b - a).toNat
theorem sumD_add (g : Int → Int) (F : Int) (m : Nat) : ∀ n : Nat, sumD g F (m + n) = sumD g F m + sumD g (F + m) n
  | 0 => by simp [sumD]
  | n + 1 => by
    rw [← Nat.add_assoc, sumD, sumD, sumD_add g F m n, show F + ((m + n : Nat) : Int) = F + (m : Int) + (n : Int) by omega]
    omega
theorem sumD_congr {f g : Int → Int} (F : Int) : ∀ n : Nat, (∀ d, F ≤ d → d < F + n → f d = g d) → sumD f F n = sumD g F n
  | 0, _ => rfl
  | n + 1, h => by rw [sumD, sumD, sumD_congr F n (fun d h1 h2 => h d h1 (by omega)), h (F + n) (by omega) (by omega)]
theorem SU_split (g : Int → Int) {a b c : Int} (h1 : a ≤ b) (h2 : b ≤ c) : SU g a c = SU g a b + SU g b c := by
  unfold SU
  rw [show (c - a).toNat = (b - a).toNat + (c - b).toNat by omega, sumD_add, show a + ((b - a).toNat : Int) = b by omega]
theorem SU_congr {f g : Int → Int} {a b : Int} (h : ∀ d, a ≤ d → d < b → f d = g d) : SU f a b = SU g a b := sumD_congr a _ fun d h1 h2 => h d h1 (by omega)
theorem SU_none (g : Int → Int) {a b : Int} (h : b ≤ a) : SU g a b = 0 := by
  unfold SU
  rw [show (b - a).toNat = 0 by omega]
  rfl
theorem SU_zero {g : Int → Int} {a b : Int} (h : ∀ d, a ≤ d → d < b → g d = 0) : SU g a b = 0 := by
  rw [SU_congr (g := fun _ => 0) h]
  exact sumD_zero (fun _ => rfl) _ _
def covB (P : List Spn) (d : Int) : Bool := P.any fun p => decide (p.1 ≤ d) && decide (d < p.2)
theorem covB_cons (p : Spn) (P : List Spn) (d : Int) : covB (p :: P) d = ((decide (p.1 ≤ d) && decide (d < p.2)) || covB P d) := rfl
theorem covB_false {P : List Spn} {d : Int} (h : ∀ p ∈ P, d < p.1 ∨ p.2 ≤ d) : covB P d = false := by
  unfold covB
  rw [List.any_eq_false]
  intro p hp
  have := h p hp
  simp
  omega
def sumT (T : Int → Int → Int) : List Spn → Int
  | [] => 0
  | p :: P => (if p.1 < p.2 then T p.1 p.2 else 0) + sumT T P
theorem cut_sum (g : Int → Int) (U : Int) : ∀ (P : List Spn) (e : Int), P.Pairwise (fun x y => x.1 ≤ y.1) → (∀ p ∈ P, p.2 ≤ U) → sumT (SU g) (cutP e P) = SU (fun d => if covB P d = true then g d else 0) e U
  | [], e, _, _ => by
    rw [SU_zero (fun d _ _ => by simp [covB])]
    rfl
  | p :: P, e, hp, hU => by
    have hp2 := List.pairwise_cons.1 hp
    have hpU := hU p List.mem_cons_self
    rw [cutP, sumT]
    have ih := cut_sum g U P (max e p.2) hp2.2 (fun q hq => hU q (List.mem_cons_of_mem _ hq))
    rw [ih]
    simp only
    have hlate : ∀ d, p.2 ≤ d → covB (p :: P) d = covB P d := fun d hd => by
      rw [covB_cons, decide_eq_false (p := d < p.2) (by omega)]; simp
    by_cases hlt : max p.1 e < p.2
    · rw [if_pos hlt, show max e p.2 = p.2 by omega]
      rw [SU_split (fun d => if covB (p :: P) d = true then g d else 0) (show e ≤ max p.1 e by omega) (show max p.1 e ≤ U by omega), SU_split (fun d => if covB (p :: P) d = true then g d else 0) (Int.le_of_lt hlt) hpU]
      rw [SU_zero (a := e) (b := max p.1 e) (fun d h1 h2 => by
        rw [covB_false, if_neg (by simp)]
        intro q hq
        left
        rcases List.mem_cons.1 hq with rfl | hq
        · omega
        · have := hp2.1 q hq; omega)]
      rw [SU_congr (a := max p.1 e) (b := p.2) (g := g) (f := fun d => if covB (p :: P) d = true then g d else 0) (fun d h1 h2 => by
        rw [covB_cons, decide_eq_true (p := p.1 ≤ d) (by omega), decide_eq_true (p := d < p.2) (by omega)]; simp)]
      rw [SU_congr (a := p.2) (b := U) (g := fun d => if covB P d = true then g d else 0) (f := fun d => if covB (p :: P) d = true then g d else 0) (fun d h1 _ => by simp only [hlate d h1])]
      omega
    · rw [if_neg hlt, Int.zero_add]
      by_cases hpe : p.2 ≤ e
      · rw [show max e p.2 = e by omega]
        exact SU_congr fun d h1 _ => by simp only [hlate d (by omega)]
      · rw [show max e p.2 = p.2 by omega]
        rw [SU_split (fun d => if covB (p :: P) d = true then g d else 0) (show e ≤ p.2 by omega) hpU]
        rw [SU_zero (a := e) (b := p.2) (fun d h1 h2 => by
          rw [covB_false, if_neg (by simp)]
          intro q hq
          left
          rcases List.mem_cons.1 hq with rfl | hq
          · omega
          · have := hp2.1 q hq; omega), Int.zero_add]
        exact SU_congr fun d h1 _ => by simp only [hlate d h1]
def calB (d : Int) : Bool := decide (-25567 ≤ d) && decide (d ≤ 84005)
/-- What a day has, in the calendar. -/
def inCal (f : Int → Int) (ok : Bool) (d : Int) : Int := if (ok && calB d) = true then f d else 0
theorem SU_cal (f : Int → Int) (ok : Bool) {a b : Int} (h : a ≤ b) : (if ok = true then sumD f (loD a) (lenD a b) else 0) = SU (inCal f ok) a b := by
  have hl : ∀ a b : Int, sumD f a (b - a).toNat = SU f a b := fun _ _ => rfl
  cases ok with
  | false => rw [if_neg (by simp), SU_zero]; intro d _ _; simp [inCal]
  | true =>
    rw [if_pos rfl]
    unfold lenD
    rw [hl]
    have hout : ∀ d, ¬ (-25567 ≤ d ∧ d ≤ 84005) → inCal f true d = 0 := fun d hd => by
      unfold inCal calB
      by_cases h1 : -25567 ≤ d
      · rw [decide_eq_false (p := d ≤ 84005) (by omega)]; simp
      · rw [decide_eq_false h1]; simp
    have hin : ∀ d, -25567 ≤ d → d ≤ 84005 → inCal f true d = f d := fun d h1 h2 => by
      unfold inCal calB
      rw [decide_eq_true h1, decide_eq_true h2]; rfl
    have hlo : loD a = max a (-25567) := rfl
    have hhi : hiD b = min b 84006 := rfl
    by_cases hlh : loD a ≤ hiD b
    · rw [SU_split (inCal f true) (show a ≤ loD a by omega) (show loD a ≤ b by omega), SU_split (inCal f true) hlh (show hiD b ≤ b by omega)]
      rw [SU_zero (a := a) (b := loD a) (fun d h1 h2 => hout d (by omega)), SU_zero (a := hiD b) (b := b) (fun d h1 h2 => hout d (by omega))]
      rw [SU_congr (a := loD a) (b := hiD b) (f := inCal f true) (g := f) (fun d h1 h2 => hin d (by omega) (by omega))]
      omega
    · rw [SU_none f (by omega), SU_zero (fun d h1 h2 => hout d (by omega))]
def okP2 (h : Nat → Int) (D : List Int) : Bool := decide (chkP h D = 0)
def gMin (h : Nat → Int) (D : List Int) : Int → Int := inCal (onV h D) (okP2 h D)
def gDay (h : Nat → Int) (D : List Int) : Int → Int := inCal (oneD (onV h D)) (okP2 h D)
theorem wkM_SU (h : Nat → Int) (D : List Int) {a b : Int} (hab : a ≤ b) : wkM h D a b = SU (gMin h D) a b := by
  unfold gMin
  rw [← SU_cal _ _ hab]
  unfold wkM okP2
  by_cases hc : chkP h D = 0 <;> simp [hc]
theorem wkN_SU (h : Nat → Int) (D : List Int) {a b : Int} (hab : a ≤ b) : wkN h D a b = SU (gDay h D) a b := by
  unfold gDay
  rw [← SU_cal _ _ hab]
  unfold wkN okP2
  by_cases hc : chkP h D = 0 <;> simp [hc]
theorem sumT_congr {T S : Int → Int → Int} : ∀ (P : List Spn), (∀ a b, a ≤ b → T a b = S a b) → sumT T P = sumT S P
  | [], _ => rfl
  | p :: P, h => by
    rw [sumT, sumT, sumT_congr P h]
    by_cases hp : p.1 < p.2
    · rw [if_pos hp, if_pos hp, h _ _ (Int.le_of_lt hp)]
    · rw [if_neg hp, if_neg hp]
/-- Is one away on a day, by absences of a kind? -/
def awayB (l : List Ab) (k d : Int) : Bool := l.any fun x => decide (x.ki = k) && decide (x.fr ≤ d) && decide (d < x.to)
theorem cov_perm {l m : List Spn} (h : m.Perm l) (d : Int) : covB m d = covB l d := by
  unfold covB
  rw [Bool.eq_iff_iff, List.any_eq_true, List.any_eq_true]
  exact ⟨fun ⟨x, hx, h1⟩ => ⟨x, h.mem_iff.1 hx, h1⟩, fun ⟨x, hx, h1⟩ => ⟨x, h.mem_iff.2 hx, h1⟩⟩
theorem cov_away (l : List Ab) {F U k d : Int} (h1 : F ≤ d) (h2 : d < U) : covB (selA l F U k) d = awayB l k d := by
  unfold covB awayB selA
  rw [Bool.eq_iff_iff, List.any_eq_true, List.any_eq_true]
  constructor
  · rintro ⟨p, hp, h3⟩
    obtain ⟨x, hx, hs⟩ := List.mem_filterMap.1 hp
    split at hs
    · rename_i hk
      injection hs with hs
      subst hs
      simp at h3
      exact ⟨x, hx, by simp [hk]; omega⟩
    · cases hs
  · rintro ⟨x, hx, h3⟩
    simp at h3
    refine ⟨(max x.fr F, min x.to U), List.mem_filterMap.2 ⟨x, hx, by rw [if_pos h3.1.1]⟩, ?_⟩
    simp
    omega
theorem sel_le {l : List Ab} {F U k : Int} : ∀ p ∈ selA l F U k, p.2 ≤ U := fun p hp => by
  unfold selA at hp
  obtain ⟨x, hx, hs⟩ := List.mem_filterMap.1 hp
  split at hs
  · injection hs with hs
    subst hs
    simp
    omega
  · cases hs
/-- The sum over absences. -/
theorem ab_law {l : List Ab} {F U k : Int} {m : List Spn} (hm : SrtS (selA l F U k) m) (g : Int → Int) {T : Int → Int → Int} (hT : ∀ a b, a ≤ b → T a b = SU g a b) : sumT T (cutP F m) = SU (fun d => if awayB l k d = true then g d else 0) F U := by
  rw [sumT_congr _ hT, cut_sum g U m F hm.2 (fun p hp => sel_le p (hm.1.mem_iff.1 hp))]
  exact SU_congr fun d h1 h2 => by rw [cov_perm hm.1, cov_away l h1 h2]
theorem sumT_take (T : Int → Int → Int) {P : List Spn} {k : Nat} {p : Spn} (h : P[k]? = some p) : sumT T (P.take (k + 1)) = sumT T (P.take k) + (if p.1 < p.2 then T p.1 p.2 else 0) := by
  have happ : ∀ A B : List Spn, sumT T (A ++ B) = sumT T A + sumT T B := fun A B => by
    induction A with
    | nil => simp [sumT]
    | cons a A ih => rw [List.cons_append, sumT, sumT, ih]; omega
  rw [List.take_add_one, h, Option.toList_some, happ]
  simp [sumT]
theorem sumT_bd {T : Int → Int → Int} {c : Int} (hc : 0 ≤ c) (hT : ∀ a b, 0 ≤ T a b ∧ T a b ≤ c) : ∀ P : List Spn, 0 ≤ sumT T P ∧ sumT T P ≤ c * P.length
  | [] => by simp [sumT]
  | p :: P => by
    have h1 := sumT_bd hc hT P
    have h2 := hT p.1 p.2
    rw [sumT, List.length_cons, Int.natCast_add, Int.mul_add]
    split <;> omega
theorem wkM_bd (h : Nat → Int) (D : List Int) (a b : Int) : 0 ≤ wkM h D a b ∧ wkM h D a b ≤ 200000000 := by
  unfold wkM
  by_cases hc : chkP h D = 0
  · rw [if_pos hc]
    have h1 := sumD_bd (onV_bd (chkP_ok hc).1 D) (loD a) (lenD a b)
    have h2 : lenD a b ≤ 109573 := by unfold lenD hiD loD; omega
    omega
  · rw [if_neg hc]; omega
theorem wkN_bd (h : Nat → Int) (D : List Int) (a b : Int) : 0 ≤ wkN h D a b ∧ wkN h D a b ≤ 200000000 := by
  unfold wkN
  by_cases hc : chkP h D = 0
  · rw [if_pos hc]
    have h1 := sumD_bd (oneD_bd (onV h D)) (loD a) (lenD a b)
    have h2 : lenD a b ≤ 109573 := by unfold lenD hiD loD; omega
    omega
  · rw [if_neg hc]; omega
end Go.Proofs.YtmngghglcgmkeaaGreatDoor

namespace Go.Proofs.YtmngghglcgmkeaaGreatDoor
open Go.RowKit Go.Sort

set_option maxHeartbeats 4000000 in
set_option maxRecDepth 100000 in
theorem ab_sumM (l : List Ab) (A : Option Addr) (c : Nat) (h : Nat → Int) (D : List Int) (AD : Option Addr) (cD : Nat) (F U k : Int) (w : World) (hl : l.length ≤ 100000) (hs : Sl encAb 5 w w.heap.size A l) (hn : D.length ≤ 9223372036854775807) (hd : ∀ d ∈ D, -9223372036854775808 ≤ d ∧ d ≤ 9223372036854775807) (hsD : Sl encDd 1 w w.heap.size AD D) (hT : Tab w) :
    Calls Tryz.prog 49 #[.slice A l.length c, .agg #[.int .i64 F, .int .i64 U], .int .i64 k, .func (.func 50) #[.agg #[.int .i64 (h 0), .int .i64 (h 1), .int .i64 (h 2), .int .i64 (h 3), .int .i64 (h 4), .int .i64 (h 5), .int .i64 (h 6), .slice AD D.length cD]] #[]] w fun e w' => e = .returned (.int .i64 (SU (fun d => if awayB l k d = true then gMin h D d else 0) F U)) ∧ Below w.heap.size w w' := by
  obtain ⟨sb, hsb⟩ : ∃ z, w.heap.size = z := ⟨_, rfl⟩
  obtain ⟨w2, hw2⟩ : ∃ z, w.alloc (.cells #[.int .i64 F, .int .i64 U] 28) = z := ⟨_, rfl⟩
  have hb2 : Below w.heap.size w w2 := by rw [← hw2]; exact bAlloc _ _
  have HB2 := Lib.hid hb2
  have HK2 : Hid (Bk sb 28 #[.int .i64 F, .int .i64 U] w2) := Lib.hid (by rw [← hw2, ← hsb]; exact Bk.new _ _ _)
  have HPA := Lib.hid (ab_parts l A c F U k w2 hl (sl_bel hs hb2))
  have HTL : Hid (∀ a b W, Below w2.heap.size w2 W → Calls Tryz.prog 50 #[.agg #[.int .i64 (h 0), .int .i64 (h 1), .int .i64 (h 2), .int .i64 (h 3), .int .i64 (h 4), .int .i64 (h 5), .int .i64 (h 6), .slice AD D.length cD], .agg #[.int .i64 a, .int .i64 b]] W fun e w' => e = .returned (.int .i64 (wkM h D a b)) ∧ Below W.heap.size W w') := Lib.hid fun a b W hW =>
    wk_Minutes h D AD cD a b W hn hd (sl_bel hsD (bTrans hb2 hW)) (tabW hT (bTrans hb2 hW))
  have HLAW : Hid (∀ m, SrtS (selA l F U k) m → sumT (wkM h D) (cutP F m) = SU (fun d => if awayB l k d = true then gMin h D d else 0) F U) := Lib.hid fun m hm => ab_law hm (gMin h D) (fun a b hab => wkM_SU h D hab)
  obtain ⟨R, hR⟩ : ∃ R, SU (fun d => if awayB l k d = true then gMin h D d else 0) F U = R := ⟨_, rfl⟩
  rw [hR] at HLAW ⊢
  have HML : Hid (∀ m, SrtS (selA l F U k) m → m.length ≤ 100000) := Lib.hid fun m hm => by have := hm.1.length_eq; have := selA_len l F U k; omega
  obtain ⟨T, hTT⟩ : ∃ T, wkM h D = T := ⟨_, rfl⟩
  have HBD : Hid (∀ a b, 0 ≤ T a b ∧ T a b ≤ 200000000) := Lib.hid (by rw [← hTT]; exact wkM_bd h D)
  have HTL2 : Hid (∀ a b W, Below w2.heap.size w2 W → Calls Tryz.prog 50 #[.agg #[.int .i64 (h 0), .int .i64 (h 1), .int .i64 (h 2), .int .i64 (h 3), .int .i64 (h 4), .int .i64 (h 5), .int .i64 (h 6), .slice AD D.length cD], .agg #[.int .i64 a, .int .i64 b]] W fun e w' => e = .returned (.int .i64 (T a b)) ∧ Below W.heap.size W w') := Lib.hid (by rw [← hTT]; exact HTL.out)
  rw [hTT] at HLAW
  have HE := Lib.hid (And.intro hsb hw2)
  clear hs hb2 hw2 hsb hsD hd hn hT hR hTT HTL
  have S0 : w2.cell? ⟨sb, 0, none⟩ = some (.int .i64 F) := HK2.out.cell 0
  have S1 : w2.cell? ⟨sb, 1, none⟩ = some (.int .i64 U) := HK2.out.cell 1
  go_enter Tryz.func49, Tryz.ntmps49
  go_upto_region 1 with fail
  rw [HE.out.1, HE.out.2]
  clear HE
  go_wp2_with fail
  refine HPA.out.mono ?_
  rintro e w3 ⟨m, A', c', hm, rfl, ho3, hb3⟩
  have hml := HML.out m hm
  obtain ⟨P, hP⟩ : ∃ P, cutP F m = P := ⟨_, rfl⟩
  have hPl : P.length = m.length := by rw [← hP]; exact cutP_len m F
  have HR : Hid (sumT T P = R) := Lib.hid (by rw [← hP]; exact HLAW.out m hm)
  rw [hP] at ho3
  rw [← hPl] at ho3 hml ⊢
  obtain ⟨Ap, cp, ep, _, hsp⟩ := own_sl encSp_len ho3
  injection ep with ep1 _ ep3
  subst ep1
  have HS3 := Lib.hid hsp
  have HB3 := Lib.hid hb3
  clear hm ho3 hb3 hP hPl hsp ep3 S0 S1 HPA HLAW HML HK2
  go_wp2
  go_loopw [9, 17] (fun nv iv wr => ∃ i : Nat, i ≤ P.length ∧ iv = .int .i64 i ∧ (∃ n : Int, nv = .int .i64 n ∧ Hid (sumT T (P.take i) = n)) ∧ Hid (Below w3.heap.size w3 wr)) (fun _ iv _ => P.length - (intOf iv).toNat)
  case atStart => exact ⟨0, Nat.zero_le _, rfl, ⟨0, rfl, Lib.hid rfl⟩, Lib.hid (Below.refl _ _)⟩
  case round =>
    obtain ⟨i, hi, rfl, ⟨n, rfl, HN⟩, HB⟩ := hrel
    by_cases hlt : i < P.length
    · obtain ⟨⟨p1, p2⟩, hx⟩ : ∃ x, P[i]? = some x := ⟨_, List.getElem?_eq_getElem hlt⟩
      obtain ⟨g, o, rfl, _, hat⟩ := HS3.out (by intro h; simp [h] at hx)
      have C0 : wr.cell? ⟨g, o + i * 2, none⟩ = some (.int .i64 p1) := bCell HB.out (hat i _ hx 0 _ rfl)
      have C1 : wr.cell? ⟨g, o + i * 2 + 1, none⟩ = some (.int .i64 p2) := bCell HB.out (hat i _ hx 1 _ rfl)
      have hnb : 0 ≤ n ∧ n ≤ 200000000 * 100000 := by
        have h1 := sumT_bd (by decide : (0 : Int) ≤ 200000000) HBD.out (P.take i)
        rw [HN.out, List.length_take] at h1
        omega
      have HST : Hid (sumT T (P.take (i + 1)) = n + if p1 < p2 then T p1 p2 else 0) := Lib.hid (by rw [sumT_take T hx, HN.out])
      obtain ⟨xb, hxb⟩ : ∃ z, wr.heap.size = z := ⟨_, rfl⟩
      obtain ⟨wx, hwx⟩ : ∃ z, wr.alloc (.cells #[.int .i64 p1, .int .i64 p2] 28) = z := ⟨_, rfl⟩
      have hbx : Below wr.heap.size wr wx := by rw [← hwx]; exact bAlloc _ _
      have hkx : Bk xb 28 #[.int .i64 p1, .int .i64 p2] wx := by rw [← hwx, ← hxb]; exact Bk.new _ _ _
      have HBX : Hid (Below w3.heap.size w3 wx) := Lib.hid (bTrans HB.out hbx)
      have X0 : wx.cell? ⟨xb, 0, none⟩ = some (.int .i64 p1) := hkx.cell 0
      have X1 : wx.cell? ⟨xb, 1, none⟩ = some (.int .i64 p2) := hkx.cell 1
      have HE := Lib.hid (And.intro hxb hwx)
      have hlt2 : (i : Int) < (P.length : Int) := by omega
      clear hx hat hxb hwx hbx hkx HB
      go_upto_region 5 with fail
      rw [HE.out.1, HE.out.2]
      clear HE C0 C1
      by_cases hp : p1 < p2
      · have HCA := Lib.hid (HTL2.out p1 p2 wx (bTrans HB3.out HBX.out))
        obtain ⟨t, ht⟩ : ∃ t, T p1 p2 = t := ⟨_, rfl⟩
        have htb : 0 ≤ t ∧ t ≤ 200000000 := by rw [← ht]; exact HBD.out _ _
        have HS2 : Hid (sumT T (P.take (i + 1)) = n + t) := Lib.hid (by rw [HST.out, if_pos hp, ht])
        rw [ht] at HCA
        clear ht
        go_wp2_with fail
        refine HCA.out.mono ?_
        rintro e wn ⟨rfl, hbn⟩
        have HBN := Lib.hid (bTrans HBX.out hbn)
        clear hbn HCA X0 X1
        go_wp2
        exact ⟨⟨i + 1, by omega, by go_num, ⟨n + t, by go_num, HS2⟩, HBN⟩, by simp [intOf]; omega⟩
      · have HS2 : Hid (sumT T (P.take (i + 1)) = n) := Lib.hid (by rw [HST.out, if_neg hp, Int.add_zero])
        go_wp2
        exact ⟨⟨i + 1, by omega, by go_num, ⟨n, rfl, HS2⟩, HBX⟩, by simp [intOf]; omega⟩
    · obtain rfl : i = P.length := by omega
      have HF : Hid (n = R ∧ Below w.heap.size w wr) := Lib.hid ⟨by rw [← HN.out, List.take_length]; exact HR.out, bTrans HB2.out (bTrans HB3.out HB.out)⟩
      clear hlt
      go_wp2
      go_ret
      exact ⟨by rw [HF.out.1]; rfl, HF.out.2⟩
set_option maxHeartbeats 4000000 in
set_option maxRecDepth 100000 in
theorem ab_Minutes (l : List Ab) (A : Option Addr) (c : Nat) (h : Nat → Int) (D : List Int) (AD : Option Addr) (cD : Nat) (F U k : Int) (w : World) (hl : l.length ≤ 100000) (hs : Sl encAb 5 w w.heap.size A l) (hn : D.length ≤ 9223372036854775807) (hd : ∀ d ∈ D, -9223372036854775808 ≤ d ∧ d ≤ 9223372036854775807) (hsD : Sl encDd 1 w w.heap.size AD D) (hT : Tab w) :
    Calls Tryz.prog 24 #[.slice A l.length c, .agg #[.int .i64 (h 0), .int .i64 (h 1), .int .i64 (h 2), .int .i64 (h 3), .int .i64 (h 4), .int .i64 (h 5), .int .i64 (h 6), .slice AD D.length cD], .agg #[.int .i64 F, .int .i64 U], .int .i64 k] w fun e w' => e = .returned (.int .i64 (SU (fun d => if awayB l k d = true then gMin h D d else 0) F U)) ∧ Below w.heap.size w w' := by
  obtain ⟨pb, hpb⟩ : ∃ z, w.heap.size = z := ⟨_, rfl⟩
  obtain ⟨sb, hsb⟩ : ∃ z, pb + 1 = z := ⟨_, rfl⟩
  obtain ⟨w2, hw2⟩ : ∃ z, (w.alloc (.cells #[.int .i64 (h 0), .int .i64 (h 1), .int .i64 (h 2), .int .i64 (h 3), .int .i64 (h 4), .int .i64 (h 5), .int .i64 (h 6), .slice AD D.length cD] 58)).alloc (.cells #[.int .i64 F, .int .i64 U] 28) = z := ⟨_, rfl⟩
  obtain ⟨k1, k2, hb2⟩ := bkk2 w _ _ _ _ hpb hsb hw2
  have HB2 := Lib.hid hb2
  have HSM := Lib.hid (ab_sumM l A c h D AD cD F U k w2 hl (sl_bel hs hb2) hn hd (sl_bel hsD hb2) (tabW hT hb2))
  have HE := Lib.hid (And.intro hpb (And.intro hsb hw2))
  have K0 : w2.cell? ⟨pb, 0, none⟩ = some (.int .i64 (h 0)) := k1.cell 0
  have K1 : w2.cell? ⟨pb, 1, none⟩ = some (.int .i64 (h 1)) := k1.cell 1
  have K2 : w2.cell? ⟨pb, 2, none⟩ = some (.int .i64 (h 2)) := k1.cell 2
  have K3 : w2.cell? ⟨pb, 3, none⟩ = some (.int .i64 (h 3)) := k1.cell 3
  have K4 : w2.cell? ⟨pb, 4, none⟩ = some (.int .i64 (h 4)) := k1.cell 4
  have K5 : w2.cell? ⟨pb, 5, none⟩ = some (.int .i64 (h 5)) := k1.cell 5
  have K6 : w2.cell? ⟨pb, 6, none⟩ = some (.int .i64 (h 6)) := k1.cell 6
  have K7 : w2.cell? ⟨pb, 7, none⟩ = some (.slice AD D.length cD) := k1.cell 7
  have S0 : w2.cell? ⟨sb, 0, none⟩ = some (.int .i64 F) := k2.cell 0
  have S1 : w2.cell? ⟨sb, 1, none⟩ = some (.int .i64 U) := k2.cell 1
  obtain ⟨R, hR⟩ : ∃ R, SU (fun d => if awayB l k d = true then gMin h D d else 0) F U = R := ⟨_, rfl⟩
  rw [hR] at HSM ⊢
  clear hpb hsb hw2 k1 k2 hb2 hs hT hd hn hsD hR
  go_enter Tryz.func24, Tryz.ntmps24
  go_upto_region 1 with fail
  rw [HE.out.1, HE.out.2.1, HE.out.2.2]
  clear HE
  go_wp2_with fail
  refine HSM.out.mono ?_
  rintro e w3 ⟨rfl, hb3⟩
  have HF := Lib.hid (bTrans HB2.out hb3)
  clear hb3 HSM K0 K1 K2 K3 K4 K5 K6 K7 S0 S1
  go_wp2
  go_ret
  exact ⟨rfl, HF.out⟩
set_option maxHeartbeats 4000000 in
set_option maxRecDepth 100000 in
theorem ab_sumN (l : List Ab) (A : Option Addr) (c : Nat) (h : Nat → Int) (D : List Int) (AD : Option Addr) (cD : Nat) (F U k : Int) (w : World) (hl : l.length ≤ 100000) (hs : Sl encAb 5 w w.heap.size A l) (hn : D.length ≤ 9223372036854775807) (hd : ∀ d ∈ D, -9223372036854775808 ≤ d ∧ d ≤ 9223372036854775807) (hsD : Sl encDd 1 w w.heap.size AD D) (hT : Tab w) :
    Calls Tryz.prog 49 #[.slice A l.length c, .agg #[.int .i64 F, .int .i64 U], .int .i64 k, .func (.func 51) #[.agg #[.int .i64 (h 0), .int .i64 (h 1), .int .i64 (h 2), .int .i64 (h 3), .int .i64 (h 4), .int .i64 (h 5), .int .i64 (h 6), .slice AD D.length cD]] #[]] w fun e w' => e = .returned (.int .i64 (SU (fun d => if awayB l k d = true then gDay h D d else 0) F U)) ∧ Below w.heap.size w w' := by
  obtain ⟨sb, hsb⟩ : ∃ z, w.heap.size = z := ⟨_, rfl⟩
  obtain ⟨w2, hw2⟩ : ∃ z, w.alloc (.cells #[.int .i64 F, .int .i64 U] 28) = z := ⟨_, rfl⟩
  have hb2 : Below w.heap.size w w2 := by rw [← hw2]; exact bAlloc _ _
  have HB2 := Lib.hid hb2
  have HK2 : Hid (Bk sb 28 #[.int .i64 F, .int .i64 U] w2) := Lib.hid (by rw [← hw2, ← hsb]; exact Bk.new _ _ _)
  have HPA := Lib.hid (ab_parts l A c F U k w2 hl (sl_bel hs hb2))
  have HTL : Hid (∀ a b W, Below w2.heap.size w2 W → Calls Tryz.prog 51 #[.agg #[.int .i64 (h 0), .int .i64 (h 1), .int .i64 (h 2), .int .i64 (h 3), .int .i64 (h 4), .int .i64 (h 5), .int .i64 (h 6), .slice AD D.length cD], .agg #[.int .i64 a, .int .i64 b]] W fun e w' => e = .returned (.int .i64 (wkN h D a b)) ∧ Below W.heap.size W w') := Lib.hid fun a b W hW =>
    wk_Days h D AD cD a b W hn hd (sl_bel hsD (bTrans hb2 hW)) (tabW hT (bTrans hb2 hW))
  have HLAW : Hid (∀ m, SrtS (selA l F U k) m → sumT (wkN h D) (cutP F m) = SU (fun d => if awayB l k d = true then gDay h D d else 0) F U) := Lib.hid fun m hm => ab_law hm (gDay h D) (fun a b hab => wkN_SU h D hab)
  obtain ⟨R, hR⟩ : ∃ R, SU (fun d => if awayB l k d = true then gDay h D d else 0) F U = R := ⟨_, rfl⟩
  rw [hR] at HLAW ⊢
  have HML : Hid (∀ m, SrtS (selA l F U k) m → m.length ≤ 100000) := Lib.hid fun m hm => by have := hm.1.length_eq; have := selA_len l F U k; omega
  obtain ⟨T, hTT⟩ : ∃ T, wkN h D = T := ⟨_, rfl⟩
  have HBD : Hid (∀ a b, 0 ≤ T a b ∧ T a b ≤ 200000000) := Lib.hid (by rw [← hTT]; exact wkN_bd h D)
  have HTL2 : Hid (∀ a b W, Below w2.heap.size w2 W → Calls Tryz.prog 51 #[.agg #[.int .i64 (h 0), .int .i64 (h 1), .int .i64 (h 2), .int .i64 (h 3), .int .i64 (h 4), .int .i64 (h 5), .int .i64 (h 6), .slice AD D.length cD], .agg #[.int .i64 a, .int .i64 b]] W fun e w' => e = .returned (.int .i64 (T a b)) ∧ Below W.heap.size W w') := Lib.hid (by rw [← hTT]; exact HTL.out)
  rw [hTT] at HLAW
  have HE := Lib.hid (And.intro hsb hw2)
  clear hs hb2 hw2 hsb hsD hd hn hT hR hTT HTL
  have S0 : w2.cell? ⟨sb, 0, none⟩ = some (.int .i64 F) := HK2.out.cell 0
  have S1 : w2.cell? ⟨sb, 1, none⟩ = some (.int .i64 U) := HK2.out.cell 1
  go_enter Tryz.func49, Tryz.ntmps49
  go_upto_region 1 with fail
  rw [HE.out.1, HE.out.2]
  clear HE
  go_wp2_with fail
  refine HPA.out.mono ?_
  rintro e w3 ⟨m, A', c', hm, rfl, ho3, hb3⟩
  have hml := HML.out m hm
  obtain ⟨P, hP⟩ : ∃ P, cutP F m = P := ⟨_, rfl⟩
  have hPl : P.length = m.length := by rw [← hP]; exact cutP_len m F
  have HR : Hid (sumT T P = R) := Lib.hid (by rw [← hP]; exact HLAW.out m hm)
  rw [hP] at ho3
  rw [← hPl] at ho3 hml ⊢
  obtain ⟨Ap, cp, ep, _, hsp⟩ := own_sl encSp_len ho3
  injection ep with ep1 _ ep3
  subst ep1
  have HS3 := Lib.hid hsp
  have HB3 := Lib.hid hb3
  clear hm ho3 hb3 hP hPl hsp ep3 S0 S1 HPA HLAW HML HK2
  go_wp2
  go_loopw [9, 17] (fun nv iv wr => ∃ i : Nat, i ≤ P.length ∧ iv = .int .i64 i ∧ (∃ n : Int, nv = .int .i64 n ∧ Hid (sumT T (P.take i) = n)) ∧ Hid (Below w3.heap.size w3 wr)) (fun _ iv _ => P.length - (intOf iv).toNat)
  case atStart => exact ⟨0, Nat.zero_le _, rfl, ⟨0, rfl, Lib.hid rfl⟩, Lib.hid (Below.refl _ _)⟩
  case round =>
    obtain ⟨i, hi, rfl, ⟨n, rfl, HN⟩, HB⟩ := hrel
    by_cases hlt : i < P.length
    · obtain ⟨⟨p1, p2⟩, hx⟩ : ∃ x, P[i]? = some x := ⟨_, List.getElem?_eq_getElem hlt⟩
      obtain ⟨g, o, rfl, _, hat⟩ := HS3.out (by intro h; simp [h] at hx)
      have C0 : wr.cell? ⟨g, o + i * 2, none⟩ = some (.int .i64 p1) := bCell HB.out (hat i _ hx 0 _ rfl)
      have C1 : wr.cell? ⟨g, o + i * 2 + 1, none⟩ = some (.int .i64 p2) := bCell HB.out (hat i _ hx 1 _ rfl)
      have hnb : 0 ≤ n ∧ n ≤ 200000000 * 100000 := by
        have h1 := sumT_bd (by decide : (0 : Int) ≤ 200000000) HBD.out (P.take i)
        rw [HN.out, List.length_take] at h1
        omega
      have HST : Hid (sumT T (P.take (i + 1)) = n + if p1 < p2 then T p1 p2 else 0) := Lib.hid (by rw [sumT_take T hx, HN.out])
      obtain ⟨xb, hxb⟩ : ∃ z, wr.heap.size = z := ⟨_, rfl⟩
      obtain ⟨wx, hwx⟩ : ∃ z, wr.alloc (.cells #[.int .i64 p1, .int .i64 p2] 28) = z := ⟨_, rfl⟩
      have hbx : Below wr.heap.size wr wx := by rw [← hwx]; exact bAlloc _ _
      have hkx : Bk xb 28 #[.int .i64 p1, .int .i64 p2] wx := by rw [← hwx, ← hxb]; exact Bk.new _ _ _
      have HBX : Hid (Below w3.heap.size w3 wx) := Lib.hid (bTrans HB.out hbx)
      have X0 : wx.cell? ⟨xb, 0, none⟩ = some (.int .i64 p1) := hkx.cell 0
      have X1 : wx.cell? ⟨xb, 1, none⟩ = some (.int .i64 p2) := hkx.cell 1
      have HE := Lib.hid (And.intro hxb hwx)
      have hlt2 : (i : Int) < (P.length : Int) := by omega
      clear hx hat hxb hwx hbx hkx HB
      go_upto_region 5 with fail
      rw [HE.out.1, HE.out.2]
      clear HE C0 C1
      by_cases hp : p1 < p2
      · have HCA := Lib.hid (HTL2.out p1 p2 wx (bTrans HB3.out HBX.out))
        obtain ⟨t, ht⟩ : ∃ t, T p1 p2 = t := ⟨_, rfl⟩
        have htb : 0 ≤ t ∧ t ≤ 200000000 := by rw [← ht]; exact HBD.out _ _
        have HS2 : Hid (sumT T (P.take (i + 1)) = n + t) := Lib.hid (by rw [HST.out, if_pos hp, ht])
        rw [ht] at HCA
        clear ht
        go_wp2_with fail
        refine HCA.out.mono ?_
        rintro e wn ⟨rfl, hbn⟩
        have HBN := Lib.hid (bTrans HBX.out hbn)
        clear hbn HCA X0 X1
        go_wp2
        exact ⟨⟨i + 1, by omega, by go_num, ⟨n + t, by go_num, HS2⟩, HBN⟩, by simp [intOf]; omega⟩
      · have HS2 : Hid (sumT T (P.take (i + 1)) = n) := Lib.hid (by rw [HST.out, if_neg hp, Int.add_zero])
        go_wp2
        exact ⟨⟨i + 1, by omega, by go_num, ⟨n, rfl, HS2⟩, HBX⟩, by simp [intOf]; omega⟩
    · obtain rfl : i = P.length := by omega
      have HF : Hid (n = R ∧ Below w.heap.size w wr) := Lib.hid ⟨by rw [← HN.out, List.take_length]; exact HR.out, bTrans HB2.out (bTrans HB3.out HB.out)⟩
      clear hlt
      go_wp2
      go_ret
      exact ⟨by rw [HF.out.1]; rfl, HF.out.2⟩
set_option maxHeartbeats 4000000 in
set_option maxRecDepth 100000 in
theorem ab_Days (l : List Ab) (A : Option Addr) (c : Nat) (h : Nat → Int) (D : List Int) (AD : Option Addr) (cD : Nat) (F U k : Int) (w : World) (hl : l.length ≤ 100000) (hs : Sl encAb 5 w w.heap.size A l) (hn : D.length ≤ 9223372036854775807) (hd : ∀ d ∈ D, -9223372036854775808 ≤ d ∧ d ≤ 9223372036854775807) (hsD : Sl encDd 1 w w.heap.size AD D) (hT : Tab w) :
    Calls Tryz.prog 25 #[.slice A l.length c, .agg #[.int .i64 (h 0), .int .i64 (h 1), .int .i64 (h 2), .int .i64 (h 3), .int .i64 (h 4), .int .i64 (h 5), .int .i64 (h 6), .slice AD D.length cD], .agg #[.int .i64 F, .int .i64 U], .int .i64 k] w fun e w' => e = .returned (.int .i64 (SU (fun d => if awayB l k d = true then gDay h D d else 0) F U)) ∧ Below w.heap.size w w' := by
  obtain ⟨pb, hpb⟩ : ∃ z, w.heap.size = z := ⟨_, rfl⟩
  obtain ⟨sb, hsb⟩ : ∃ z, pb + 1 = z := ⟨_, rfl⟩
  obtain ⟨w2, hw2⟩ : ∃ z, (w.alloc (.cells #[.int .i64 (h 0), .int .i64 (h 1), .int .i64 (h 2), .int .i64 (h 3), .int .i64 (h 4), .int .i64 (h 5), .int .i64 (h 6), .slice AD D.length cD] 58)).alloc (.cells #[.int .i64 F, .int .i64 U] 28) = z := ⟨_, rfl⟩
  obtain ⟨k1, k2, hb2⟩ := bkk2 w _ _ _ _ hpb hsb hw2
  have HB2 := Lib.hid hb2
  have HSM := Lib.hid (ab_sumN l A c h D AD cD F U k w2 hl (sl_bel hs hb2) hn hd (sl_bel hsD hb2) (tabW hT hb2))
  have HE := Lib.hid (And.intro hpb (And.intro hsb hw2))
  have K0 : w2.cell? ⟨pb, 0, none⟩ = some (.int .i64 (h 0)) := k1.cell 0
  have K1 : w2.cell? ⟨pb, 1, none⟩ = some (.int .i64 (h 1)) := k1.cell 1
  have K2 : w2.cell? ⟨pb, 2, none⟩ = some (.int .i64 (h 2)) := k1.cell 2
  have K3 : w2.cell? ⟨pb, 3, none⟩ = some (.int .i64 (h 3)) := k1.cell 3
  have K4 : w2.cell? ⟨pb, 4, none⟩ = some (.int .i64 (h 4)) := k1.cell 4
  have K5 : w2.cell? ⟨pb, 5, none⟩ = some (.int .i64 (h 5)) := k1.cell 5
  have K6 : w2.cell? ⟨pb, 6, none⟩ = some (.int .i64 (h 6)) := k1.cell 6
  have K7 : w2.cell? ⟨pb, 7, none⟩ = some (.slice AD D.length cD) := k1.cell 7
  have S0 : w2.cell? ⟨sb, 0, none⟩ = some (.int .i64 F) := k2.cell 0
  have S1 : w2.cell? ⟨sb, 1, none⟩ = some (.int .i64 U) := k2.cell 1
  obtain ⟨R, hR⟩ : ∃ R, SU (fun d => if awayB l k d = true then gDay h D d else 0) F U = R := ⟨_, rfl⟩
  rw [hR] at HSM ⊢
  clear hpb hsb hw2 k1 k2 hb2 hs hT hd hn hsD hR
  go_enter Tryz.func25, Tryz.ntmps25
  go_upto_region 1 with fail
  rw [HE.out.1, HE.out.2.1, HE.out.2.2]
  clear HE
  go_wp2_with fail
  refine HSM.out.mono ?_
  rintro e w3 ⟨rfl, hb3⟩
  have HF := Lib.hid (bTrans HB2.out hb3)
  clear hb3 HSM K0 K1 K2 K3 K4 K5 K6 K7 S0 S1
  go_wp2
  go_ret
  exact ⟨rfl, HF.out⟩
end Go.Proofs.YtmngghglcgmkeaaGreatDoor
