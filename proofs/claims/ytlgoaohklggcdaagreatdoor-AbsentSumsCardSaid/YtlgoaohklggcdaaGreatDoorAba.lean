import Derived.Test.YtlgoaohklggcdaaGreatDoorWkc
import Derived.Test.YtlgoaohklggcdaaGreatDoorTma
/- absent.parts: the spans of a kind, in order, each cut behind the ones ahead of it. -/
namespace Go.Proofs.YtlgoaohklggcdaaGreatDoor
open Go.RowKit Go.Sort

theorem own_sortK {B g cap n : Nat} {l m : List Spn} {os : Array Obj} {w : World} (h : OwnSp B (.slice (some ⟨g, 0, none⟩) l.length cap) l w) (hl : m.length = l.length) (hg : g < w.heap.size) :
    OwnSp B (.slice (some ⟨g, 0, none⟩) l.length cap) m (sortWorldK encSp 2 w g 0 n m.toArray os) ∧ w.grownBy (sortWorldK encSp 2 w g 0 n m.toArray os) (some g) := by
  have hsz : g < (putRowK encSp 2 (Sort.ahead w n) g 0 m.toArray).heap.size := by
    show g < (putRow id (Sort.ahead w n) g 0 (flatK encSp 2 m.toArray)).heap.size
    simp [putRow, mapBlock]
    exact hg
  have hhp : (sortWorldK encSp 2 w g 0 n m.toArray os).heap[g]? = w.heap[g]?.map (onCells (putCells id 0 (flatK encSp 2 m.toArray))) := by
    show (grow (putRowK encSp 2 (Sort.ahead w n) g 0 m.toArray) os).heap[g]? = _
    simp only [grow]
    rw [Array.getElem?_append_left hsz]
    show (putRow id (Sort.ahead w n) g 0 (flatK encSp 2 m.toArray)).heap[g]? = _
    simp [putRow, mapBlock, Array.getElem?_modify]
  refine ⟨?_, ?_⟩
  · rcases h.2 with ⟨h1, _⟩ | ⟨g', cap', cur, hv, hb, hgc, hn, hm, hs, ht⟩
    · cases h1
    · injection hv with h1 h2 h3
      injection h1 with h1
      injection h1 with h1
      subst h1; subst h3
      rw [hgc] at hhp
      have hml : (rowOf encSp m).length = m.length * 2 := rowOf_length encSp_len m
      show World.ownsRow _ _ _ _ _ m.length (rowOf encSp m)
      refine ⟨hml, .inr ⟨g, cap, putCells id 0 (flatK encSp 2 m.toArray) cur, by rw [hl], hb, hhp, by omega, hm, by simp [putCells, hs], ?_⟩⟩
      apply List.ext_getElem?
      intro i
      rw [List.getElem?_take]
      by_cases hi : i < m.length * 2
      · rw [if_pos hi]
        have hic : i < cur.size := by omega
        have hd : i / 2 < m.length := by omega
        have hm2 : i % 2 < 2 := Nat.mod_lt _ (by decide)
        have hx : m[i / 2]? = some m[i / 2] := List.getElem?_eq_getElem hd
        have e : m.toArray[i / 2]! = m[i / 2] := by rw [getElem!_pos m.toArray _ (by simpa using hd)]; simp
        have hu : (encSp m[i / 2])[i % 2]? = some (encSp m[i / 2])[i % 2]! := by
          rw [List.getElem?_eq_getElem (by rw [encSp_len]; exact hm2), getElem!_pos (encSp m[i / 2]) (i % 2) (by rw [encSp_len]; exact hm2)]
        have hr := rowOf_get encSp_len m _ _ hx _ _ hu
        rw [show i / 2 * 2 + i % 2 = i by omega] at hr
        rw [hr]
        simp only [putCells, Array.getElem?_toList, Array.getElem?_mapIdx, Array.getElem?_eq_getElem hic, Option.map_some]
        rw [if_pos ⟨Nat.zero_le _, by simp; omega⟩, Nat.sub_zero, get_flatK _ _ _ _ (by simpa using hi), e]
        rfl
      · rw [if_neg hi, List.getElem?_eq_none (by omega)]
  · have k : w.grownBy (putRowK encSp 2 (Sort.ahead w n) g 0 m.toArray) (some g) :=
      ⟨rfl, rfl, rfl, by simp [putRowK, putRow, mapBlock, Sort.ahead], fun k _ hk => by
        have hne : g ≠ k := fun h => hk (by rw [h])
        simp [putRowK, putRow, mapBlock, Array.getElem?_modify, hne, Sort.ahead]⟩
    refine ⟨k.os, k.tape, k.output, ?_, fun i hi hn => ?_⟩
    · exact Nat.le_trans k.size (by simp only [sortWorldK, grow, Array.size_append]; exact Nat.le_add_right _ _)
    · have := k.block i hi hn
      simp only [sortWorldK, grow]
      rw [Array.getElem?_append_left (Nat.lt_of_lt_of_le hi k.size)]
      exact this
theorem ab_cmp (x y : Spn) (w : World) : Calls Tryz.prog 167 #[.agg (encSp x).toArray, .agg (encSp y).toArray] w fun e w' => e = .returned (.int .i64 (cfD x.1 y.1)) ∧ ∃ q os', w' = grow (w.drewN q) os' := by
  show Calls Tryz.prog 167 #[.agg #[.int .i64 x.1, .int .i64 x.2], .agg #[.int .i64 y.1, .int .i64 y.2]] w _
  go_enter Tryz.func167, Tryz.ntmps167
  go_wp2_with fail
  refine (dd_Compare x.1 y.1 _).mono ?_
  rintro e w1 ⟨rfl, rfl⟩
  go_wp2
  go_ret
  refine ⟨rfl, 0, #[.cells #[.int .i64 x.1, .int .i64 x.2] 31, .cells #[.int .i64 y.1, .int .i64 y.2] 31], ?_⟩
  rw [alloc_eq_grow, alloc_eq_grow, grow_grow]
  rfl
/-- The same spans, in order. -/
def SrtS (l m : List Spn) : Prop := m.Perm l ∧ m.Pairwise fun x y => x.1 ≤ y.1
theorem ab_Sort {B : Nat} {v : Value} {l : List Spn} {w : World} (h : OwnSp B v l w) (hl : l.length ≤ 1000000) :
    Calls Tryz.prog 118 #[v, .func (.func 167) #[] #[]] w fun e w' => e = .returned (.tuple #[]) ∧ ∃ m, SrtS l m ∧ OwnSp B v m w' ∧ w.grownBy w' v.ownBlock := by
  by_cases hne : l = []
  · subst hne
    obtain ⟨A, cp, rfl, _, _⟩ := own_sl encSp_len h
    exact (AnyF.slices_SortFunc_none Tryz.laySpanSort A cp _ w).mono fun e w' ⟨h1, h2⟩ => ⟨h1, [], ⟨.refl _, .nil⟩, by rw [h2]; exact h, by rw [h2]; exact World.grownBy.refl _ _⟩
  · obtain ⟨g, cap, rfl, hb, hr⟩ := Own.row encSp_len h hne
    have hH := holdsSp hr
    have k := AnyQ.slices_SortFunc Tryz.laySpanSort 2 Tryz.isAgg31 Tryz.sizeOf31 encSp encSp_len encSp_one (fun x y : Spn => cfD x.1 y.1) swo_cf 167 #[] g 0 cap l.toArray w (enters_of Tryz.func167 (by kernel_rfl) rfl) (fun m os dk _ x y => ab_cmp x y _) hH hr.lt (by simp; omega)
    rw [List.size_toArray] at k
    refine k.mono fun e w' ⟨h1, d', n, os, hp, hs, hw⟩ => ⟨h1, d'.toList, ⟨?_, ?_⟩, ?_⟩
    · obtain ⟨p1, _, p3⟩ := hp
      have e1 : d'.extract 0 l.length = d' := by rw [← show d'.size = l.length by rw [p1]; simp, Array.extract_size]
      have e2 : (l.toArray.extract 0 l.length).toList = l := by simp
      rw [e1, e2] at p3
      exact p3
    · have p1 : d'.size = l.length := by rw [hp.1]; simp
      rw [List.pairwise_iff_getElem]
      intro i j hi hj hij
      have h2 := hs i j (Nat.zero_le _) hij (by rw [← p1]; simpa using hj)
      rw [getElem!_pos d' i (by simpa using hi), getElem!_pos d' j (by simpa using hj)] at h2
      unfold ltOf cfD at h2
      simp only [Array.getElem_toList]
      by_cases h3 : (d'[j]).1 < (d'[i]).1
      · simp [h3] at h2
      · omega
    · have p1 : d'.toList.length = l.length := by rw [Array.length_toList, hp.1]; simp
      have k2 := own_sortK (n := n) (os := os) h p1 hr.lt
      rw [hw]
      exact k2
end Go.Proofs.YtlgoaohklggcdaaGreatDoor
