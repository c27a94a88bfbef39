/- Out of: Yj0 Yj1. -/
import Derived.Test.YtgepbkldgnjpfaaGreatDoorShD
import Derived.Test.YtgepbkldgnjpfaaGreatDoorZgr
/- year: lines compared, lines sorted (gen/mkslipsort.py). -/
namespace Go.Proofs.YtgepbkldgnjpfaaGreatDoor
open Go.RowKit Go.Sort Go.BigFrame

/-- A line's number: by its part, then by its code. -/
def keyL (x : Li) : Int := x.1 * (257 ^ 32 : Nat) + (Ao.numT 32 (ls x.2.1) : Int)
abbrev El := {x : Li // x.2.1.size ≤ 32}
instance : Inhabited El := ⟨⟨(0, ByteArray.empty, 0), by decide⟩⟩
def encEl (x : El) : List Value := encLi x.1
theorem encEl_len (x : El) : (encEl x).length = 3 := rfl
theorem encEl_one (x : El) : ∀ u ∈ encEl x, u.oneCell' = true := by
  intro u hu
  simp [encEl, encLi] at hu
  rcases hu with rfl | rfl | rfl <;> rfl
def cfL (x y : El) : Int := Ao.cf (keyL x.1) (keyL y.1)
theorem swo_cfL : SWO (ltOf cfL) := by
  have e : ∀ x y : El, ltOf cfL x y = decide (keyL x.1 < keyL y.1) := fun x y => by
    unfold ltOf cfL Ao.cf
    by_cases h : keyL x.1 < keyL y.1
    · simp [h]
    · by_cases h2 : keyL y.1 < keyL x.1 <;> simp [h, h2]
  constructor
  · intro x; rw [e]; simp
  · intro x y z; rw [e, e, e]; simp; omega
  · intro x y z; rw [e, e, e]; simp; omega
set_option maxHeartbeats 4000000 in
set_option maxRecDepth 100000 in
theorem slip_cmp (x y : El) (w : World) : Calls Tryz.prog 64 #[.agg (encEl x).toArray, .agg (encEl y).toArray] w fun e w' => e = .returned (.int .i64 (cfL x y)) ∧ ∃ q os', w' = Sort.grow (w.drewN q) os' := by
  obtain ⟨⟨fra, fco, fam⟩, hfs⟩ := x
  obtain ⟨⟨gra, gco, gam⟩, hgs⟩ := y
  show Calls Tryz.prog 64 #[.agg #[.int .i64 fra, .string fco, .int .i64 fam], .agg #[.int .i64 gra, .string gco, .int .i64 gam]] w fun e w' => e = .returned (.int .i64 (Ao.cf (keyL (fra, fco, fam)) (keyL (gra, gco, gam)))) ∧ ∃ q os', w' = Sort.grow (w.drewN q) os'
  have HC : Hid ((if Ao.cf fra gra ≠ 0 then Ao.cf fra gra else Ao.cf (Ao.numT 32 (ls fco)) (Ao.numT 32 (ls gco))) = Ao.cf (keyL (fra, fco, fam)) (keyL (gra, gco, gam))) := Lib.hid (Ao.cf_pair ⟨fco, fra, 0, 0, 0, 0⟩ ⟨gco, gra, 0, 0, 0, 0⟩).symm
  have HS : Hid (∀ W, Calls Tryz.prog 67 #[.string fco, .string gco] W fun e w' => e = .returned (.int .i64 (Ao.cf (Ao.numT 32 (ls fco)) (Ao.numT 32 (ls gco)))) ∧ w' = W) := Lib.hid fun W => Ao.cmp_CompareS fco gco W hfs hgs
  clear hfs hgs
  obtain ⟨c1, hc1⟩ : ∃ c, Ao.cf fra gra = c := ⟨_, rfl⟩
  obtain ⟨c2, hc2⟩ : ∃ c, Ao.cf (Ao.numT 32 (ls fco)) (Ao.numT 32 (ls gco)) = c := ⟨_, rfl⟩
  obtain ⟨r, hr⟩ : ∃ c, Ao.cf (keyL (fra, fco, fam)) (keyL (gra, gco, gam)) = c := ⟨_, rfl⟩
  have HI : Hid (∀ W, Calls Tryz.prog 66 #[.int .i64 fra, .int .i64 gra] W fun e w' => e = .returned (.int .i64 c1) ∧ w' = W) := Lib.hid fun W => by rw [← hc1]; exact Ao.cmp_CompareI fra gra W
  rw [hc2] at HS
  rw [hc1, hc2, hr] at HC
  rw [hr]
  have HO : Hid (∀ A cap W, Sl encC 1 W W.heap.size A [c1, c2] → Calls Tryz.prog 65 #[.slice A 2 cap] W fun e w' => e = .returned (.int .i64 r) ∧ W = w') := Lib.hid fun A cap W h => by rw [← HC.out]; exact Ao.cmp_Or2 c1 c2 A cap W h
  clear hc1 hc2 hr HC
  obtain ⟨ab, hab⟩ : ∃ x, w.heap.size = x := ⟨_, rfl⟩
  obtain ⟨bb, hbb⟩ : ∃ x, ab + 1 = x := ⟨_, rfl⟩
  obtain ⟨wa, hwa⟩ : ∃ x, (w.alloc (.cells #[.int .i64 fra, .string fco, .int .i64 fam] 44)).alloc (.cells #[.int .i64 gra, .string gco, .int .i64 gam] 44) = x := ⟨_, rfl⟩
  have k0 : Bk ab 44 #[.int .i64 fra, .string fco, .int .i64 fam] wa := by rw [← hwa, ← hab]; exact (Bk.new _ _ _).grows (Grows.of_alloc _ _)
  have k1 : Bk bb 44 #[.int .i64 gra, .string gco, .int .i64 gam] wa := by
    have := Bk.new (w.alloc (.cells #[.int .i64 fra, .string fco, .int .i64 fam] 44)) 44 #[.int .i64 gra, .string gco, .int .i64 gam]
    rw [hwa, show (w.alloc (.cells #[.int .i64 fra, .string fco, .int .i64 fam] 44)).heap.size = bb by simp; omega] at this
    exact this
  have HG : Hid (Grows w wa) := Lib.hid (by rw [← hwa]; exact (Grows.of_alloc _ _).alloc _)
  have C0 : wa.cell? ⟨ab, 0, none⟩ = some (.int .i64 fra) := k0.cell 0
  have C1 : wa.cell? ⟨ab, 1, none⟩ = some (.string fco) := k0.cell 1
  have D0 : wa.cell? ⟨bb, 0, none⟩ = some (.int .i64 gra) := k1.cell 0
  have D1 : wa.cell? ⟨bb, 1, none⟩ = some (.string gco) := k1.cell 1
  have hl0 := k0.lt
  have hl1 := k1.lt
  have HWF := Lib.hid (And.intro hab (And.intro hbb hwa))
  clear k0 k1 hab hbb hwa
  go_enter Tryz.func64, Tryz.ntmps64
  go_upto_region 1 with fail
  simp only [HWF.out.1, HWF.out.2.1, HWF.out.2.2]
  clear HWF
  have e1 : ∀ W : World, (W.alloc (.cells #[.int .i64 c1, .int .i64 c2] 3)).heap.size = W.heap.size + 1 := fun W => by simp
  have HSL : Hid (∀ W : World, Sl encC 1 (W.alloc (.cells #[.int .i64 c1, .int .i64 c2] 3)) (W.alloc (.cells #[.int .i64 c1, .int .i64 c2] 3)).heap.size (some ⟨W.heap.size, 0, none⟩) [c1, c2]) := Lib.hid fun W => by
    have := slNewC W 3 [c1, c2]
    simpa using this
  have HSD : Hid (Sl encC 1 (wa.alloc (.cells #[.int .i64 c1, .int .i64 c2] 3)).drew (wa.alloc (.cells #[.int .i64 c1, .int .i64 c2] 3)).drew.heap.size (some ⟨wa.heap.size, 0, none⟩) [c1, c2]) := Lib.hid (HSL.out wa)
  go_wp2_with fail
  go_region_held3 (fun W => W.cell? ⟨ab, 0, none⟩ = some (.int .i64 fra) ∧ W.cell? ⟨ab, 1, none⟩ = some (.string fco) ∧ W.cell? ⟨bb, 0, none⟩ = some (.int .i64 gra) ∧ W.cell? ⟨bb, 1, none⟩ = some (.string gco)) (first | go_keep) (first | (go_at_call 66; (with_reducible refine (HI.out _).mono ?_); rintro e wn ⟨rfl, rfl⟩) | (go_at_call 67; (with_reducible refine (HS.out _).mono ?_); rintro e wn ⟨rfl, rfl⟩) | (go_at_call 65; (with_reducible refine (HO.out _ _ _ HSD.out).mono ?_); rintro e wn ⟨rfl, rfl⟩))
  all_goals
    go_wp2
    go_ret
    exact ⟨rfl, Ao.grows_post (HG.out.trans (by first | exact (Grows.of_drew _).alloc _ | exact ((Grows.of_alloc _ _).drew)))⟩
theorem own_sortL {B g cap n : Nat} {l m : List El} {os : Array Obj} {w : World} (h : Own encEl 3 44 B (.slice (some ⟨g, 0, none⟩) l.length cap) l w) (hl : m.length = l.length) (hg : g < w.heap.size) :
    Own encEl 3 44 B (.slice (some ⟨g, 0, none⟩) l.length cap) m (sortWorldK encEl 3 w g 0 n m.toArray os) ∧ w.grownBy (sortWorldK encEl 3 w g 0 n m.toArray os) (some g) := by
  have hsz : g < (putRowK encEl 3 (Sort.ahead w n) g 0 m.toArray).heap.size := by
    show g < (putRow id (Sort.ahead w n) g 0 (flatK encEl 3 m.toArray)).heap.size
    simp [putRow, mapBlock]
    exact hg
  have hhp : (sortWorldK encEl 3 w g 0 n m.toArray os).heap[g]? = w.heap[g]?.map (onCells (putCells id 0 (flatK encEl 3 m.toArray))) := by
    show (Sort.grow (putRowK encEl 3 (Sort.ahead w n) g 0 m.toArray) os).heap[g]? = _
    simp only [Sort.grow]
    rw [Array.getElem?_append_left hsz]
    show (putRow id (Sort.ahead w n) g 0 (flatK encEl 3 m.toArray)).heap[g]? = _
    simp [putRow, mapBlock, Array.getElem?_modify]
  refine ⟨?_, ?_⟩
  · rcases h.2 with ⟨h1, _⟩ | ⟨g', cap', cur, hv, hb, hgc, hn, hm, hs, ht⟩
    · cases h1
    · injection hv with h1 h2 h3
      injection h1 with h1
      injection h1 with h1
      subst h1; subst h3
      rw [hgc] at hhp
      have hml : (rowOf encEl m).length = m.length * 3 := rowOf_length encEl_len m
      show World.ownsRow _ _ _ _ _ m.length (rowOf encEl m)
      refine ⟨hml, .inr ⟨g, cap, putCells id 0 (flatK encEl 3 m.toArray) cur, by rw [hl], hb, hhp, by omega, hm, by simp [putCells, hs], ?_⟩⟩
      apply List.ext_getElem?
      intro i
      rw [List.getElem?_take]
      by_cases hi : i < m.length * 3
      · rw [if_pos hi]
        have hic : i < cur.size := by omega
        have hd : i / 3 < m.length := by omega
        have hm2 : i % 3 < 3 := Nat.mod_lt _ (by decide)
        have hx : m[i / 3]? = some m[i / 3] := List.getElem?_eq_getElem hd
        have e : m.toArray[i / 3]! = m[i / 3] := by rw [getElem!_pos m.toArray _ (by simpa using hd)]; simp
        have hu : (encEl m[i / 3])[i % 3]? = some (encEl m[i / 3])[i % 3]! := by
          rw [List.getElem?_eq_getElem (by rw [encEl_len]; exact hm2), getElem!_pos (encEl m[i / 3]) (i % 3) (by rw [encEl_len]; exact hm2)]
        have hr := rowOf_get encEl_len m _ _ hx _ _ hu
        rw [show i / 3 * 3 + i % 3 = i by omega] at hr
        rw [hr]
        simp only [putCells, Array.getElem?_toList, Array.getElem?_mapIdx, Array.getElem?_eq_getElem hic, Option.map_some]
        rw [if_pos ⟨Nat.zero_le _, by simp; omega⟩, Nat.sub_zero, get_flatK _ _ _ _ (by simpa using hi), e]
        rfl
      · rw [if_neg hi, List.getElem?_eq_none (by omega)]
  · have k : w.grownBy (putRowK encEl 3 (Sort.ahead w n) g 0 m.toArray) (some g) :=
      ⟨rfl, rfl, rfl, by simp [putRowK, putRow, mapBlock, Sort.ahead], fun k _ hk => by
        have hne : g ≠ k := fun h => hk (by rw [h])
        simp [putRowK, putRow, mapBlock, Array.getElem?_modify, hne, Sort.ahead]⟩
    refine ⟨k.os, k.tape, k.output, ?_, fun i hi hn => ?_⟩
    · exact Nat.le_trans k.size (by simp only [sortWorldK, Sort.grow, Array.size_append]; exact Nat.le_add_right _ _)
    · have := k.block i hi hn
      simp only [sortWorldK, Sort.grow]
      rw [Array.getElem?_append_left (Nat.lt_of_lt_of_le hi k.size)]
      exact this
theorem holdsL {g cap : Nat} {l : List El} {w : World} (hr : Rw encEl 3 44 g cap l w) : HoldsK encEl 3 w g 0 l.toArray := by
  intro j hj
  have hj2 : j < l.toArray.size * 3 := by simpa using hj
  have hj3 : j < l.length * 3 := by simpa using hj2
  have hd : j / 3 < l.length := by omega
  refine ⟨?_, by rw [Nat.zero_add]; exact hr.frozen _⟩
  rw [get_flatK _ _ _ _ hj2, Nat.zero_add]
  have hx : l[j / 3]? = some l[j / 3] := List.getElem?_eq_getElem hd
  have e : l.toArray[j / 3]! = l[j / 3] := by rw [getElem!_pos l.toArray _ (by simpa using hd)]; simp
  rw [e]
  have hm : j % 3 < 3 := Nat.mod_lt _ (by decide)
  have hu : (encEl l[j / 3])[j % 3]? = some (encEl l[j / 3])[j % 3]! := by
    rw [List.getElem?_eq_getElem (by rw [encEl_len]; exact hm), getElem!_pos (encEl l[j / 3]) (j % 3) (by rw [encEl_len]; exact hm)]
  have := hr.cell hx hu
  rwa [show j / 3 * 3 + j % 3 = j by omega] at this
/-- The lines sorted. -/
theorem sl_SortE {B : Nat} {v : Value} {l : List El} {w : World} (h : Own encEl 3 44 B v l w) (hl : l.length ≤ 1000000) :
    Calls Tryz.prog 63 #[v, .func (.func 64) #[] #[]] w fun e w' => e = .returned (.tuple #[]) ∧ ∃ m : List El, (m.Perm l ∧ m.Pairwise fun x y => keyL x.1 ≤ keyL y.1) ∧ Own encEl 3 44 B v m w' ∧ w.grownBy w' v.ownBlock := by
  by_cases hne : l = []
  · subst hne
    obtain ⟨A, cp, rfl, _⟩ := Own.val (enc := encEl) (k := 3) (fun _ => rfl) h
    exact (AnyF.slices_SortFunc_none Tryz.layLineSort A cp _ w).mono fun e w' ⟨h1, h2⟩ => ⟨h1, [], ⟨.refl _, .nil⟩, by rw [h2]; exact h, by rw [h2]; exact World.grownBy.refl _ _⟩
  · obtain ⟨g, cap, rfl, hb, hr⟩ := Own.row encEl_len h hne
    have hH := holdsL hr
    have k := AnyQ.slices_SortFunc Tryz.layLineSort 3 Tryz.isAgg44 Tryz.sizeOf44 encEl encEl_len encEl_one cfL swo_cfL 64 #[] g 0 cap l.toArray w (enters_of Tryz.func64 (by kernel_rfl) rfl) (fun m os dk _ x y => slip_cmp x y _) hH hr.lt (by simp; omega)
    rw [List.size_toArray] at k
    refine k.mono fun e w' ⟨h1, d', n, os, hp, hs, hw⟩ => ⟨h1, d'.toList, ⟨?_, ?_⟩, ?_⟩
    · obtain ⟨p1, _, p3⟩ := hp
      have e1 : d'.extract 0 l.length = d' := by rw [← show d'.size = l.length by rw [p1]; simp, Array.extract_size]
      have e2 : (l.toArray.extract 0 l.length).toList = l := by simp
      rw [e1, e2] at p3
      exact p3
    · have p1 : d'.size = l.length := by rw [hp.1]; simp
      rw [List.pairwise_iff_getElem]
      intro i j hi hj hij
      have h2 := hs i j (Nat.zero_le _) hij (by rw [← p1]; simpa using hj)
      rw [getElem!_pos d' i (by simpa using hi), getElem!_pos d' j (by simpa using hj)] at h2
      unfold ltOf cfL Ao.cf at h2
      simp only [Array.getElem_toList]
      by_cases h3 : keyL (d'[j]).1 < keyL (d'[i]).1
      · simp [h3] at h2
      · omega
    · have p1 : d'.toList.length = l.length := by rw [Array.length_toList, hp.1]; simp
      have k2 := own_sortL (n := n) (os := os) h p1 hr.lt
      rw [hw]
      exact k2
end Go.Proofs.YtgepbkldgnjpfaaGreatDoor

/- year: the lines of a slip, in plain. -/
namespace Go.Proofs.YtgepbkldgnjpfaaGreatDoor
open Go.RowKit Go.Sort Go.BigFrame Go.Maps

def lnP (k : Kp) (v : Int) : Li := (k.1.1, k.1.2, v)
theorem lnP_sz (k : Kp) (v : Int) : (lnP k v).2.1.size ≤ 32 := k.2.2
theorem keyL_inj {k k' : Kp} {v v' : Int} (h : keyL (lnP k v) = keyL (lnP k' v')) : k = k' := by
  have h1 := Ao.numT_lt 32 (ls k.1.2)
  have h2 := Ao.numT_lt 32 (ls k'.1.2)
  have hl : (ls k.1.2).length ≤ 32 := by rw [ls_len]; exact k.2.2
  have hl' : (ls k'.1.2).length ≤ 32 := by rw [ls_len]; exact k'.2.2
  have h3 := (Ao.numT_less 32 _ _ hl hl').2
  unfold keyL lnP at h
  dsimp only at h
  generalize Ao.numT 32 (ls k.1.2) = x at *
  generalize Ao.numT 32 (ls k'.1.2) = y at *
  have hM : (1 : Int) ≤ ((257 ^ 32 : Nat) : Int) := by decide
  generalize (257 ^ 32 : Nat) = M at *
  have e : k.1.1 = k'.1.1 := by
    rcases Int.lt_trichotomy k.1.1 k'.1.1 with g | g | g
    · have h4 : (k.1.1 + 1) * (M : Int) ≤ k'.1.1 * M := Int.mul_le_mul_of_nonneg_right (by omega) (by omega)
      rw [Int.add_mul, Int.one_mul] at h4
      omega
    · exact g
    · have h4 : (k'.1.1 + 1) * (M : Int) ≤ k.1.1 * M := Int.mul_le_mul_of_nonneg_right (by omega) (by omega)
      rw [Int.add_mul, Int.one_mul] at h4
      omega
  rw [e] at h
  have h5 := h3 (by omega)
  have h6 : k.1.2 = k'.1.2 := by
    have : k.1.2.data.toList = k'.1.2.data.toList := h5
    exact ByteArray.ext (Array.toList_inj.1 this)
  exact Subtype.ext (Prod.ext e h6)
def inK (k : Kp) (seen : List Kp) : Bool := seen.any fun q => decide (q = k)
theorem inK_iff {k : Kp} {seen : List Kp} : inK k seen = true ↔ k ∈ seen := by
  unfold inK
  simp
/-- The lines of a map, one for each key whose amount is not nought. -/
def slpG : Ass Kp Int → List Kp → List Li
  | [], _ => []
  | p :: r, seen => if inK p.1 seen = true then slpG r seen else (if p.2 = 0 then [] else [lnP p.1 p.2]) ++ slpG r (p.1 :: seen)
theorem slpG_mem {x : Li} : ∀ (m : Ass Kp Int) (seen : List Kp), x ∈ slpG m seen ↔ ∃ k v, k ∉ seen ∧ getA m k = some v ∧ v ≠ 0 ∧ x = lnP k v
  | [], seen => by simp [slpG, getA]
  | p :: r, seen => by
    unfold slpG
    by_cases hp : p.1 ∈ seen
    · rw [if_pos (inK_iff.2 hp), slpG_mem r seen]
      constructor
      · rintro ⟨k, v, h1, h2, h3⟩
        exact ⟨k, v, h1, by unfold getA; rw [if_neg (fun e : p.1 = k => h1 (by rw [← e]; exact hp))]; exact h2, h3⟩
      · rintro ⟨k, v, h1, h2, h3⟩
        unfold getA at h2
        rw [if_neg (fun e : p.1 = k => h1 (by rw [← e]; exact hp))] at h2
        exact ⟨k, v, h1, h2, h3⟩
    · rw [if_neg (fun h => hp (inK_iff.1 h)), List.mem_append, slpG_mem r (p.1 :: seen)]
      constructor
      · rintro (h | ⟨k, v, h1, h2, h3⟩)
        · split at h
          · cases h
          · rename_i h0
            exact ⟨p.1, p.2, hp, by unfold getA; rw [if_pos rfl], h0, List.mem_singleton.1 h⟩
        · have h4 : ¬ (p.1 = k) := fun e => h1 (by rw [← e]; exact List.mem_cons_self)
          exact ⟨k, v, fun e => h1 (List.mem_cons_of_mem _ e), by unfold getA; rw [if_neg h4]; exact h2, h3⟩
      · rintro ⟨k, v, h1, h2, h3, h4⟩
        unfold getA at h2
        by_cases e : p.1 = k
        · rw [if_pos e] at h2
          cases h2
          left
          rw [if_neg h3, h4, e]
          exact List.mem_singleton.2 rfl
        · rw [if_neg e] at h2
          right
          exact ⟨k, v, fun h => by rcases List.mem_cons.1 h with h | h; exact e h.symm; exact h1 h, h2, h3, h4⟩
theorem slpG_nodup : ∀ (m : Ass Kp Int) (seen : List Kp), (slpG m seen).Nodup
  | [], seen => List.nodup_nil
  | p :: r, seen => by
    unfold slpG
    by_cases hp : p.1 ∈ seen
    · rw [if_pos (inK_iff.2 hp)]; exact slpG_nodup r seen
    · rw [if_neg (fun h => hp (inK_iff.1 h))]
      split
      · exact slpG_nodup r _
      · refine List.nodup_cons.2 ⟨fun h => ?_, slpG_nodup r _⟩
        obtain ⟨k, v, h1, _, _, h4⟩ := (slpG_mem r _).1 h
        have := keyL_inj (congrArg keyL h4)
        exact h1 (this ▸ List.mem_cons_self)
def slpS (m : Ass Kp Int) : List Li := (slpG m []).mergeSort fun x y => decide (keyL x ≤ keyL y)
def slpOk (m : Ass Kp Int) : Bool := m.all fun p => fitB (gP m p.1)
/-- The lines, or what is wrong. -/
def slpR (m : Ass Kp Int) : List Li × Int := if slpOk m = false then ([], 9) else (slpS m, 0)
theorem getA_key {κ β : Type} [DecidableEq κ] {k : κ} {v : β} : ∀ {m : Ass κ β}, getA m k = some v → ∃ p ∈ m, p.1 = k
  | [], h => by cases h
  | p :: r, h => by
    unfold getA at h
    by_cases e : p.1 = k
    · exact ⟨p, List.mem_cons_self, e⟩
    · rw [if_neg e] at h
      obtain ⟨q, hq, e2⟩ := getA_key h
      exact ⟨q, List.mem_cons_of_mem _ hq, e2⟩
theorem getA_of_mem {κ β : Type} [DecidableEq κ] {k : κ} : ∀ {m : Ass κ β}, (∃ p ∈ m, p.1 = k) → ∃ v, getA m k = some v
  | [], ⟨_, h, _⟩ => by cases h
  | p :: r, ⟨q, hq, e⟩ => by
    unfold getA
    by_cases e1 : p.1 = k
    · exact ⟨_, if_pos e1⟩
    · rw [if_neg e1]
      rcases List.mem_cons.1 hq with rfl | hq
      · exact absurd e e1
      · exact getA_of_mem ⟨q, hq, e⟩
theorem slpOk_iff {m : Ass Kp Int} : slpOk m = true ↔ ∀ k v, getA m k = some v → fitB v = true := by
  unfold slpOk
  rw [List.all_eq_true]
  constructor
  · intro h k v hk
    obtain ⟨p, hp, rfl⟩ := getA_key hk
    have := h p hp
    unfold gP at this
    rw [hk] at this
    exact this
  · intro h p hp
    obtain ⟨v, hv⟩ := getA_of_mem (m := m) ⟨p, hp, rfl⟩
    have := h _ _ hv
    unfold gP
    rw [hv]
    exact this
/-- What a range over the lines has found so far. -/
structure SlI (m : Ass Kp Int) (left : Lit → Bool) (out : List Li) : Prop where
  fwd : ∀ x ∈ out, ∃ k v, getA m k = some v ∧ v ≠ 0 ∧ x = lnP k v ∧ left (klP k) = false
  bwd : ∀ k v, getA m k = some v → left (klP k) = false → fitB v = true ∧ (v ≠ 0 → lnP k v ∈ out)
  nod : out.Nodup
theorem SlI.start {m : Ass Kp Int} : SlI m (has (dA klP aggC m)) [] where
  fwd x h := by cases h
  bwd k v h1 h2 := by rw [dA_has klP_W, h1] at h2; cases h2
  nod := List.nodup_nil
theorem sameKP {k k' : Kp} : (klP k).sameKey (klP k') = true ↔ k = k' := by
  constructor
  · intro h
    refine klP_W.inj _ _ ?_
    unfold klP at h ⊢
    simpa [Lit.sameKey] using h
  · rintro rfl
    unfold klP
    simp [Lit.sameKey]
theorem SlI.next {m : Ass Kp Int} {left : Lit → Bool} {out : List Li} (h : SlI m left out) {k : Kp} {v : Int} (hv : getA m k = some v) (hl : left (klP k) = true) (hf : fitB v = true) : SlI m (fun z => left z && !z.sameKey (klP k)) (if v ≠ 0 then out ++ [lnP k v] else out) where
  fwd x hx := by
    have old : x ∈ out → ∃ k' v', getA m k' = some v' ∧ v' ≠ 0 ∧ x = lnP k' v' ∧ (left (klP k') && !(klP k').sameKey (klP k)) = false := fun hx => by
      obtain ⟨k', v', h1, h2, h3, h4⟩ := h.fwd x hx
      exact ⟨k', v', h1, h2, h3, by rw [h4]; rfl⟩
    split at hx
    · rename_i h0
      rcases List.mem_append.1 hx with hx | hx
      · exact old hx
      · exact ⟨k, v, hv, h0, List.mem_singleton.1 hx, by rw [sameKP.2 rfl]; simp⟩
    · exact old hx
  bwd k' v' h1 h2 := by
    by_cases e : k' = k
    · subst e
      rw [hv] at h1
      cases h1
      exact ⟨hf, fun h0 => by rw [if_pos h0]; exact List.mem_append_right _ (List.mem_singleton.2 rfl)⟩
    · have h3 : left (klP k') = false := by
        have h4 : (klP k').sameKey (klP k) = false := by
          cases hq : (klP k').sameKey (klP k)
          · rfl
          · exact absurd (sameKP.1 hq) e
        rw [h4] at h2
        simpa using h2
      obtain ⟨h5, h6⟩ := h.bwd k' v' h1 h3
      refine ⟨h5, fun h0 => ?_⟩
      split
      · exact List.mem_append_left _ (h6 h0)
      · exact h6 h0
  nod := by
    split
    · rename_i h0
      refine List.nodup_append.2 ⟨h.nod, List.nodup_cons.2 ⟨by simp, List.nodup_nil⟩, fun a ha b hb => ?_⟩
      rw [List.mem_singleton.1 hb]
      rintro rfl
      obtain ⟨k', v', _, _, h3, h4⟩ := h.fwd _ ha
      have := keyL_inj (congrArg keyL h3)
      subst this
      rw [hl] at h4
      cases h4
    · exact h.nod
/-- At the end: whatever is found, sorted, is the slip. -/
theorem SlI.done {m : Ass Kp Int} {left : Lit → Bool} {out s : List Li} (h : SlI m left out) (hl : ∀ z, left z = false) (hp : s.Perm out) (hs : s.Pairwise fun x y => keyL x ≤ keyL y) : slpR m = (s, 0) := by
  have hok : slpOk m = true := slpOk_iff.2 fun k v hk => (h.bwd k v hk (hl _)).1
  unfold slpR
  rw [if_neg (by rw [hok]; simp)]
  have hmem : ∀ x, x ∈ out ↔ x ∈ slpG m [] := fun x => by
    rw [slpG_mem]
    constructor
    · intro hx
      obtain ⟨k, v, h1, h2, h3, _⟩ := h.fwd x hx
      exact ⟨k, v, by simp, h1, h2, h3⟩
    · rintro ⟨k, v, _, h1, h2, rfl⟩
      exact (h.bwd k v h1 (hl _)).2 h2
  have hpo : out.Perm (slpG m []) := (List.perm_ext_iff_of_nodup h.nod (slpG_nodup m [])).2 hmem
  have hpm : (slpS m).Perm (slpG m []) := List.mergeSort_perm _ _
  have hsm : (slpS m).Pairwise fun x y => keyL x ≤ keyL y := by
    have := List.pairwise_mergeSort (le := fun x y : Li => decide (keyL x ≤ keyL y)) (fun a b c h1 h2 => by simp at *; omega) (fun a b => by simp; omega) (slpG m [])
    exact this.imp fun h => by simpa using h
  have key : ∀ a b : Li, a ∈ s → b ∈ slpS m → keyL a ≤ keyL b → keyL b ≤ keyL a → a = b := by
    intro a b ha hb h1 h2
    obtain ⟨k, v, _, g1, _, rfl⟩ := (slpG_mem m []).1 ((hmem a).1 (hp.mem_iff.1 ha))
    obtain ⟨k', v', _, g2, _, rfl⟩ := (slpG_mem m []).1 (hpm.mem_iff.1 hb)
    have := keyL_inj (v := v) (v' := v') (k := k) (k' := k') (by omega)
    subst this
    rw [g1] at g2
    cases g2
    rfl
  have : s = slpS m := ((hp.trans hpo).trans hpm.symm).eq_of_pairwise key hs hsm
  rw [this]
end Go.Proofs.YtgepbkldgnjpfaaGreatDoor
