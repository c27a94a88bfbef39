/- Merged from: Sp1 Sp2 Sp3. -/
import Derived.Test.YtmngghglcgmkeaaGreatDoorLnb
namespace Go.Proofs.YtmngghglcgmkeaaGreatDoor
open Go.RowKit Go.Sort

theorem sp_empty (F T : Int) (w : World) : Calls Tryz.prog 70 #[.agg #[.int .i64 F, .int .i64 T]] w fun e w' => e = .returned (.bool (decide (T ≤ F))) ∧ Below w.heap.size w w' := by
  obtain ⟨x1, b1⟩ : ∃ z, decide (T ≤ F) = z := ⟨_, rfl⟩
  rw [b1]
  have HB := Lib.hid (bAlloc w (.cells #[.int .i64 F, .int .i64 T] 28))
  go_enter Tryz.func70, Tryz.ntmps70
  go_wp2
  go_ret
  exact ⟨rfl, HB.out⟩
def lenS (F T : Int) : Int := if T ≤ F then 0 else min (T - F) 4611686018427387904
theorem len_u {F T : Int} (h : F < T) (hF : -9223372036854775808 ≤ F) (hT : T ≤ 9223372036854775807) : IntKind.i64.wrap (min (IntKind.u64.wrap (IntKind.u64.wrap T - IntKind.u64.wrap F)) 4611686018427387904) = min (T - F) 4611686018427387904 := by
  have e : IntKind.u64.wrap (IntKind.u64.wrap T - IntKind.u64.wrap F) = T - F := by
    simp [IntKind.wrap, IntKind.bits, IntKind.signed]
    omega
  rw [e]
  exact IntWalk.i64_in _ (by omega)
/-- The days of both. -/
def crossS (a b c d : Int) : Int × Int := if min b d ≤ max a c then (0, 0) else (max a c, min b d)
theorem bkk3 (w : World) (c d e : Array Value) (t u v : TypeId) {p q r : Nat} {w2 : World} (h1 : w.heap.size = p) (h2 : p + 1 = q) (h3 : q + 1 = r) (hw : ((w.alloc (.cells c t)).alloc (.cells d u)).alloc (.cells e v) = w2) : Bk p t c w2 ∧ Bk q u d w2 ∧ Bk r v e w2 ∧ Below w.heap.size w w2 := by
  obtain ⟨k1, k2, k3⟩ := bkk2 w c d t u h1 h2 rfl
  subst hw
  have b3 := Bk.new ((w.alloc (.cells c t)).alloc (.cells d u)) v e
  rw [show ((w.alloc (.cells c t)).alloc (.cells d u)).heap.size = r by simp; omega] at b3
  exact ⟨k1.grows (.of_alloc _ _), k2.grows (.of_alloc _ _), b3, bTrans k3 (bAlloc _ _)⟩
set_option maxHeartbeats 1000000 in
set_option maxRecDepth 100000 in
theorem sp_Cross (a b c d : Int) (w : World) : Calls Tryz.prog 39 #[.agg #[.int .i64 a, .int .i64 b], .agg #[.int .i64 c, .int .i64 d]] w fun e w' => e = .returned (.agg #[.int .i64 (crossS a b c d).1, .int .i64 (crossS a b c d).2]) ∧ Below w.heap.size w w' := by
  obtain ⟨p, hp⟩ : ∃ x, w.heap.size = x := ⟨_, rfl⟩
  obtain ⟨q, hq⟩ : ∃ x, p + 1 = x := ⟨_, rfl⟩
  obtain ⟨r, hr⟩ : ∃ x, q + 1 = x := ⟨_, rfl⟩
  obtain ⟨w2, hw2⟩ : ∃ x, ((w.alloc (.cells #[.int .i64 a, .int .i64 b] 28)).alloc (.cells #[.int .i64 c, .int .i64 d] 28)).alloc (.cells #[.int .i64 0, .int .i64 0] 28) = x := ⟨_, rfl⟩
  obtain ⟨k1, k2, k3, hb⟩ := bkk3 w _ _ _ _ _ _ hp hq hr hw2
  have hw : Hid (w.heap.size ≤ r) := Lib.hid (by omega)
  have HB := Lib.hid hb
  have HE := Lib.hid (And.intro hp (And.intro hq (And.intro hr hw2)))
  have A0 : w2.cell? ⟨p, 0, none⟩ = some (.int .i64 a) := k1.cell 0
  have A1 : w2.cell? ⟨p, 1, none⟩ = some (.int .i64 b) := k1.cell 1
  have C0 : w2.cell? ⟨q, 0, none⟩ = some (.int .i64 c) := k2.cell 0
  have C1 : w2.cell? ⟨q, 1, none⟩ = some (.int .i64 d) := k2.cell 1
  have HK := Lib.hid k3
  clear hp hq hr hw2 k1 k2 k3 hb
  go_enter Tryz.func39, Tryz.ntmps39
  go_upto_region 1 with fail
  rw [HE.out.1, HE.out.2.1, HE.out.2.2.1, HE.out.2.2.2]
  clear HE
  obtain ⟨m, hm⟩ : ∃ z, max a c = z := ⟨_, rfl⟩
  obtain ⟨n, hn⟩ : ∃ z, min b d = z := ⟨_, rfl⟩
  obtain ⟨w3, hw3⟩ : ∃ x, w2.alloc (.cells #[.int .i64 m, .int .i64 n] 28) = x := ⟨_, rfl⟩
  obtain ⟨t, ht⟩ : ∃ x, w2.heap.size = x := ⟨_, rfl⟩
  have hk3 : Bk t 28 #[.int .i64 m, .int .i64 n] w3 := by rw [← hw3, ← ht]; exact Bk.new _ _ _
  have hb3 : Below w2.heap.size w2 w3 := by rw [← hw3]; exact bAlloc _ _
  have HB3 := Lib.hid (bTrans HB.out hb3)
  have HC : Hid (∀ W, Below w3.heap.size w3 W → Bk t 28 #[.int .i64 m, .int .i64 n] W ∧ Bk r 28 #[.int .i64 0, .int .i64 0] W) := Lib.hid fun W hW => ⟨(hW.block t hk3.lt).trans hk3, (bTrans hb3 hW |>.block r HK.out.lt).trans HK.out⟩
  have HE3 := Lib.hid (And.intro hw3 ht)
  have HM := Lib.hid (sp_empty m n w3)
  have HV : Hid (crossS a b c d = if n ≤ m then (0, 0) else (m, n)) := Lib.hid (by unfold crossS; rw [hm, hn])
  clear hw3 ht hk3 hb3 HB
  go_upto_region 2 with fail
  rw [HE3.out.1, HE3.out.2]
  clear A0 A1 C0 C1 HE3 hm hn
  obtain ⟨k1, k2⟩ := HC.out w3 (Below.refl _ _)
  have T0 : w3.cell? ⟨t, 0, none⟩ = some (.int .i64 m) := k1.cell 0
  have T1 : w3.cell? ⟨t, 1, none⟩ = some (.int .i64 n) := k1.cell 1
  clear k1 k2
  go_wp2_with fail
  refine HM.out.mono ?_
  rintro e w4 ⟨rfl, hb4⟩
  obtain ⟨k1, k2⟩ := HC.out w4 hb4
  have HB4 := Lib.hid (bTrans HB3.out hb4)
  clear T0 T1 hb4 HM HC HB3
  have T0 : w4.cell? ⟨t, 0, none⟩ = some (.int .i64 m) := k1.cell 0
  have T1 : w4.cell? ⟨t, 1, none⟩ = some (.int .i64 n) := k1.cell 1
  have R0 : w4.cell? ⟨r, 0, none⟩ = some (.int .i64 0) := k2.cell 0
  have R1 : w4.cell? ⟨r, 1, none⟩ = some (.int .i64 0) := k2.cell 1
  have G0 : w4.frozen? ⟨r, 0, none⟩ = false := k2.frozen 0
  have G1 : w4.frozen? ⟨r, 1, none⟩ = false := k2.frozen 1
  have HFIN : Hid (∀ x y, ((w4.setCell ⟨r, 0, none⟩ x).setCell ⟨r, 1, none⟩ y).cell? ⟨r, 0, none⟩ = some x ∧ ((w4.setCell ⟨r, 0, none⟩ x).setCell ⟨r, 1, none⟩ y).cell? ⟨r, 1, none⟩ = some y ∧ Below w.heap.size w ((w4.setCell ⟨r, 0, none⟩ x).setCell ⟨r, 1, none⟩ y)) := Lib.hid fun x y => by
    have hz := (k2.set_ 0 x).set_ 1 y
    exact ⟨hz.cell 0, hz.cell 1, (HB4.out.setCell (p := ⟨r, 0, none⟩) hw.out x).setCell (p := ⟨r, 1, none⟩) hw.out y⟩
  clear k1 k2 HB4 HK
  by_cases h : n ≤ m
  · have b0 : decide (n ≤ m) = true := decide_eq_true h
    rw [if_pos h] at HV
    clear h
    go_wp2
    obtain ⟨z0, z1, z2⟩ := HFIN.out (.int .i64 0) (.int .i64 0)
    exact bodyPost_ret (v := .agg #[.int .i64 0, .int .i64 0]) (by simp [results, Tryz.results39, go_sem, z0, z1]) rfl ⟨by rw [HV.out], z2⟩
  · have b0 : decide (n ≤ m) = false := decide_eq_false h
    rw [if_neg h] at HV
    clear h
    go_wp2
    obtain ⟨z0, z1, z2⟩ := HFIN.out (.int .i64 m) (.int .i64 n)
    exact bodyPost_ret (v := .agg #[.int .i64 m, .int .i64 n]) (by simp [results, Tryz.results39, go_sem, z0, z1]) rfl ⟨by rw [HV.out], z2⟩
end Go.Proofs.YtmngghglcgmkeaaGreatDoor

namespace Go.Proofs.YtmngghglcgmkeaaGreatDoor
open Go.RowKit Go.Sort

abbrev Spn := Int × Int
def encSp (x : Spn) : List Value := [.int .i64 x.1, .int .i64 x.2]
theorem encSp_len (x : Spn) : (encSp x).length = 2 := rfl
theorem encSp_one (x : Spn) : ∀ u ∈ encSp x, u.oneCell' = true := by
  intro u hu
  simp [encSp] at hu
  rcases hu with rfl | rfl <;> rfl
abbrev OwnSp (B : Nat) (v : Value) (l : List Spn) (w : World) : Prop := Own encSp 2 28 B v l w
theorem spanInfo : (Tryz.prog.info? 28).map (fun i => (i.zero, i.size, i.bytes)) = some (some (.agg #[.int .i64 0, .int .i64 0]), 2, 16) := by kernel_rfl
theorem newsSp (x : Spn) (w : World) : ∀ j u, (encSp x)[j]? = some u → (w.alloc (.cells #[.int .i64 x.1, .int .i64 x.2] 28)).cell? ⟨w.heap.size, j, none⟩ = some u := by
  intro j u hu
  have h := Bk.new w 28 #[.int .i64 x.1, .int .i64 x.2]
  rw [h.cell]
  simpa [encSp] using hu
theorem belowSp {B : Nat} {w0 w w' : World} {v : Value} {l : List Spn} (h : Below B w0 w) (hB : B ≤ w.heap.size) (ho : OwnSp B v l w) (hg : w.grownBy w' v.ownBlock) : Below B w0 w' :=
  h.trans ⟨hg.os, hg.tape, hg.output, hg.size, fun i hi => hg.block i (by omega) (ho.far hi)⟩
theorem sliceSp_new (w : World) : Own encSp 2 28 w.heap.size (.slice (some ⟨w.heap.size, 0, none⟩) 0 0) [] (w.alloc (.cells #[] 28)) := own_empty (Bk.new w _ #[]) (Nat.le_refl _)
theorem sliceDd_new (w : World) : Own encDd 1 24 w.heap.size (.slice (some ⟨w.heap.size, 0, none⟩) 0 0) [] (w.alloc (.cells #[] 24)) := own_empty (Bk.new w _ #[]) (Nat.le_refl _)
/-- The pieces of a span, cut at rising days. -/
def pcsS (F T : Int) : List Int → List Spn
  | [] => [(F, T)]
  | d :: C => if F < d ∧ d < T then (F, d) :: pcsS d T C else pcsS F T C
def piecesS (F T : Int) (C : List Int) : List Spn := if T ≤ F then [] else pcsS F T (C.mergeSort fun x y => decide (x ≤ y))
/-- What stands behind k days: the pieces, and where the last one begins. -/
def pcsK (T : Int) (s : List Spn × Int) (d : Int) : List Spn × Int := if s.2 < d ∧ d < T then (s.1 ++ [(s.2, d)], d) else s
theorem pcsS_fold (T : Int) : ∀ (C : List Int) (O : List Spn) (F : Int), (C.foldl (pcsK T) (O, F)).1 ++ [((C.foldl (pcsK T) (O, F)).2, T)] = O ++ pcsS F T C
  | [], O, F => rfl
  | d :: C, O, F => by
    rw [List.foldl_cons, pcsS]
    unfold pcsK
    by_cases h : F < d ∧ d < T
    · rw [if_pos h, if_pos h]
      have := pcsS_fold T C (O ++ [(F, d)]) d
      rw [show (pcsK T) = fun s d => if s.2 < d ∧ d < T then (s.1 ++ [(s.2, d)], d) else s from rfl] at this
      rw [this, List.append_assoc]; rfl
    · rw [if_neg h, if_neg h]
      exact pcsS_fold T C O F
theorem pcsK_len (T : Int) : ∀ (C : List Int) (s : List Spn × Int), (C.foldl (pcsK T) s).1.length ≤ s.1.length + C.length
  | [], _ => by simp
  | d :: C, s => by
    rw [List.foldl_cons]
    have h1 := pcsK_len T C (pcsK T s d)
    have h2 : (pcsK T s d).1.length ≤ s.1.length + 1 := by
      unfold pcsK
      split
      · simp
      · omega
    rw [List.length_cons]; omega
theorem pcsK_take {T F : Int} {C : List Int} {k : Nat} {d : Int} (h : C[k]? = some d) : (C.take (k + 1)).foldl (pcsK T) ([], F) = pcsK T ((C.take k).foldl (pcsK T) ([], F)) d := by
  rw [List.take_add_one, h, List.foldl_append]
  rfl
end Go.Proofs.YtmngghglcgmkeaaGreatDoor

namespace Go.Proofs.YtmngghglcgmkeaaGreatDoor
open Go.RowKit Go.Sort

/-- A span behind others. -/
def joinS (L : List Spn) (F T : Int) : List Spn := if T ≤ F then L else match L.reverse with
  | [] => [(F, T)]
  | (a, b) :: r => if F ≤ b then r.reverse ++ [(a, max b T)] else L ++ [(F, T)]
theorem joinS_empty {L : List Spn} {F T : Int} (h : T ≤ F) : joinS L F T = L := if_pos h
theorem joinS_nil {F T : Int} (h : ¬ T ≤ F) : joinS [] F T = [(F, T)] := by unfold joinS; rw [if_neg h]; rfl
theorem joinS_in {O : List Spn} {a b F T : Int} (h : ¬ T ≤ F) (hF : F ≤ b) : joinS (O ++ [(a, b)]) F T = O ++ [(a, max b T)] := by
  unfold joinS
  rw [if_neg h, List.reverse_append, List.reverse_singleton, List.singleton_append]
  simp [hF]
theorem joinS_out {O : List Spn} {a b F T : Int} (h : ¬ T ≤ F) (hF : ¬ F ≤ b) : joinS (O ++ [(a, b)]) F T = O ++ [(a, b)] ++ [(F, T)] := by
  unfold joinS
  rw [if_neg h, List.reverse_append, List.reverse_singleton, List.singleton_append]
  simp [hF]
theorem joinS_len (L : List Spn) (F T : Int) : (joinS L F T).length ≤ L.length + 1 := by
  unfold joinS
  split
  · omega
  · split
    · simp
    · rename_i a b r hr
      have : L.length = r.length + 1 := by rw [← List.length_reverse, hr]; rfl
      split <;> simp <;> omega
theorem setLast {O : List Spn} {a b c : Int} : (rowOf encSp (O ++ [(a, b)])).set (O.length * 2 + 1) (.int .i64 c) = rowOf encSp (O ++ [(a, c)]) := by
  rw [rowOf_append, rowOf_append]
  have hl : (rowOf encSp O).length = O.length * 2 := rowOf_length encSp_len O
  rw [List.set_append_right _ _ (by omega), hl, Nat.add_sub_cancel_left]
  rfl
theorem ownLast {B : Nat} {v : Value} {O : List Spn} {x : Spn} {w : World} (h : w.ownsRow B 28 2 v (O.length + 1) (rowOf encSp (O ++ [x]))) : OwnSp B v (O ++ [x]) w := by
  show w.ownsRow B _ 2 v (O ++ [x]).length _
  rw [show (O ++ [x]).length = O.length + 1 by simp]
  exact h
theorem lastOf {B cp : Nat} {A : Option Addr} {O : List Spn} {x : Spn} {w : World} (h : OwnSp B (.slice A (O.length + 1) cp) (O ++ [x]) w) :
    ∃ g, A = some ⟨g, 0, none⟩ ∧ B ≤ g ∧ g < w.heap.size ∧ (∀ j u, (encSp x)[j]? = some u → w.cell? ⟨g, O.length * 2 + j, none⟩ = some u) ∧ w.ownsRow B 28 2 (.slice (some ⟨g, 0, none⟩) (O.length + 1) cp) (O.length + 1) (rowOf encSp (O ++ [x])) := by
  obtain ⟨g, cap, hv, hb, hr⟩ := Own.row encSp_len h (by simp)
  injection hv with h1 h2 h3
  subst h1; subst h3
  refine ⟨g, rfl, hb, hr.lt, fun j u hu => hr.cell (i := O.length) (by simp) hu, ?_⟩
  have h2 : w.ownsRow B 28 2 (.slice (some ⟨g, 0, none⟩) (O.length + 1) cp) (O ++ [x]).length (rowOf encSp (O ++ [x])) := h
  rwa [show (O ++ [x]).length = O.length + 1 by simp] at h2
end Go.Proofs.YtmngghglcgmkeaaGreatDoor
