/- Merged from: Sp1 Sp2 Sp3. -/
import Derived.Test.YtlgoaohklggcdaaGreatDoorLnb
namespace Go.Proofs.YtlgoaohklggcdaaGreatDoor
open Go.RowKit Go.Sort

theorem sp_empty (F T : Int) (w : World) : Calls Tryz.prog 96 #[.agg #[.int .i64 F, .int .i64 T]] w fun e w' => e = .returned (.bool (decide (T ≤ F))) ∧ Below w.heap.size w w' := by
  obtain ⟨x1, b1⟩ : ∃ z, decide (T ≤ F) = z := ⟨_, rfl⟩
  rw [b1]
  have HB := Lib.hid (bAlloc w (.cells #[.int .i64 F, .int .i64 T] 31))
  go_enter Tryz.func96, Tryz.ntmps96
  go_wp2
  go_ret
  exact ⟨rfl, HB.out⟩
def lenS (F T : Int) : Int := if T ≤ F then 0 else min (T - F) 4611686018427387904
theorem len_u {F T : Int} (h : F < T) (hF : -9223372036854775808 ≤ F) (hT : T ≤ 9223372036854775807) : IntKind.i64.wrap (min (IntKind.u64.wrap (IntKind.u64.wrap T - IntKind.u64.wrap F)) 4611686018427387904) = min (T - F) 4611686018427387904 := by
  have e : IntKind.u64.wrap (IntKind.u64.wrap T - IntKind.u64.wrap F) = T - F := by
    simp [IntKind.wrap, IntKind.bits, IntKind.signed]
    omega
  rw [e]
  exact IntWalk.i64_in _ (by omega)
set_option maxRecDepth 100000 in
theorem sp_Length (F T : Int) (w : World) (hF : -9223372036854775808 ≤ F) (hT : T ≤ 9223372036854775807) : Calls Tryz.prog 53 #[.agg #[.int .i64 F, .int .i64 T]] w fun e w' => e = .returned (.int .i64 (lenS F T)) ∧ Below w.heap.size w w' := by
  obtain ⟨w2, hw2⟩ : ∃ x, w.alloc (.cells #[.int .i64 F, .int .i64 T] 31) = x := ⟨_, rfl⟩
  obtain ⟨sb, hsb⟩ : ∃ x, w.heap.size = x := ⟨_, rfl⟩
  have hk : Bk sb 31 #[.int .i64 F, .int .i64 T] w2 := by rw [← hw2, ← hsb]; exact Bk.new _ _ _
  have hb : Below w.heap.size w w2 := by rw [← hw2]; exact bAlloc _ _
  have HB := Lib.hid hb
  have HC : Hid (∀ W, Below w2.heap.size w2 W → W.cell? ⟨sb, 0, none⟩ = some (.int .i64 F) ∧ W.cell? ⟨sb, 1, none⟩ = some (.int .i64 T)) := Lib.hid fun W hW => ⟨bCell hW (hk.cell 0), bCell hW (hk.cell 1)⟩
  have HE := Lib.hid (And.intro hw2 hsb)
  have HM := Lib.hid (sp_empty F T w2)
  clear hw2 hsb hk hb
  go_enter Tryz.func53, Tryz.ntmps53
  go_upto_region 1 with fail
  rw [HE.out.1, HE.out.2]
  clear HE
  obtain ⟨c0, c1⟩ := HC.out w2 (Below.refl _ _)
  go_wp2_with fail
  refine HM.out.mono ?_
  rintro e w3 ⟨rfl, hb3⟩
  obtain ⟨d0, d1⟩ := HC.out w3 hb3
  have HB3 := Lib.hid (bTrans HB.out hb3)
  clear c0 c1 hb3 HM
  by_cases h : T ≤ F
  · have b0 : decide (T ≤ F) = true := decide_eq_true h
    have HV : Hid (lenS F T = 0) := Lib.hid (if_pos h)
    clear h
    go_wp2
    go_ret
    exact ⟨ret_i HV.out.symm, HB3.out⟩
  · have b0 : decide (T ≤ F) = false := decide_eq_false h
    have HV : Hid (lenS F T = min (T - F) 4611686018427387904) := Lib.hid (if_neg h)
    have HLU := Lib.hid (len_u (Int.not_le.1 h) hF hT)
    clear h
    go_wp2
    go_ret
    exact ⟨ret_i (by rw [HV.out, ← HLU.out]; first | rfl | (unfold wrap64; rfl) | (unfold wrap64; rw [IntKind.wrap_i64]) | simp [wrap64]), HB3.out⟩
/-- The days of both. -/
def crossS (a b c d : Int) : Int × Int := if min b d ≤ max a c then (0, 0) else (max a c, min b d)
theorem bkk3 (w : World) (c d e : Array Value) (t u v : TypeId) {p q r : Nat} {w2 : World} (h1 : w.heap.size = p) (h2 : p + 1 = q) (h3 : q + 1 = r) (hw : ((w.alloc (.cells c t)).alloc (.cells d u)).alloc (.cells e v) = w2) : Bk p t c w2 ∧ Bk q u d w2 ∧ Bk r v e w2 ∧ Below w.heap.size w w2 := by
  obtain ⟨k1, k2, k3⟩ := bkk2 w c d t u h1 h2 rfl
  subst hw
  have b3 := Bk.new ((w.alloc (.cells c t)).alloc (.cells d u)) v e
  rw [show ((w.alloc (.cells c t)).alloc (.cells d u)).heap.size = r by simp; omega] at b3
  exact ⟨k1.grows (.of_alloc _ _), k2.grows (.of_alloc _ _), b3, bTrans k3 (bAlloc _ _)⟩
set_option maxHeartbeats 1000000 in
set_option maxRecDepth 100000 in
theorem sp_Cross (a b c d : Int) (w : World) : Calls Tryz.prog 54 #[.agg #[.int .i64 a, .int .i64 b], .agg #[.int .i64 c, .int .i64 d]] w fun e w' => e = .returned (.agg #[.int .i64 (crossS a b c d).1, .int .i64 (crossS a b c d).2]) ∧ Below w.heap.size w w' := by
  obtain ⟨p, hp⟩ : ∃ x, w.heap.size = x := ⟨_, rfl⟩
  obtain ⟨q, hq⟩ : ∃ x, p + 1 = x := ⟨_, rfl⟩
  obtain ⟨r, hr⟩ : ∃ x, q + 1 = x := ⟨_, rfl⟩
  obtain ⟨w2, hw2⟩ : ∃ x, ((w.alloc (.cells #[.int .i64 a, .int .i64 b] 31)).alloc (.cells #[.int .i64 c, .int .i64 d] 31)).alloc (.cells #[.int .i64 0, .int .i64 0] 31) = x := ⟨_, rfl⟩
  obtain ⟨k1, k2, k3, hb⟩ := bkk3 w _ _ _ _ _ _ hp hq hr hw2
  have hw : Hid (w.heap.size ≤ r) := Lib.hid (by omega)
  have HB := Lib.hid hb
  have HE := Lib.hid (And.intro hp (And.intro hq (And.intro hr hw2)))
  have A0 : w2.cell? ⟨p, 0, none⟩ = some (.int .i64 a) := k1.cell 0
  have A1 : w2.cell? ⟨p, 1, none⟩ = some (.int .i64 b) := k1.cell 1
  have C0 : w2.cell? ⟨q, 0, none⟩ = some (.int .i64 c) := k2.cell 0
  have C1 : w2.cell? ⟨q, 1, none⟩ = some (.int .i64 d) := k2.cell 1
  have HK := Lib.hid k3
  clear hp hq hr hw2 k1 k2 k3 hb
  go_enter Tryz.func54, Tryz.ntmps54
  go_upto_region 1 with fail
  rw [HE.out.1, HE.out.2.1, HE.out.2.2.1, HE.out.2.2.2]
  clear HE
  obtain ⟨m, hm⟩ : ∃ z, max a c = z := ⟨_, rfl⟩
  obtain ⟨n, hn⟩ : ∃ z, min b d = z := ⟨_, rfl⟩
  obtain ⟨w3, hw3⟩ : ∃ x, w2.alloc (.cells #[.int .i64 m, .int .i64 n] 31) = x := ⟨_, rfl⟩
  obtain ⟨t, ht⟩ : ∃ x, w2.heap.size = x := ⟨_, rfl⟩
  have hk3 : Bk t 31 #[.int .i64 m, .int .i64 n] w3 := by rw [← hw3, ← ht]; exact Bk.new _ _ _
  have hb3 : Below w2.heap.size w2 w3 := by rw [← hw3]; exact bAlloc _ _
  have HB3 := Lib.hid (bTrans HB.out hb3)
  have HC : Hid (∀ W, Below w3.heap.size w3 W → Bk t 31 #[.int .i64 m, .int .i64 n] W ∧ Bk r 31 #[.int .i64 0, .int .i64 0] W) := Lib.hid fun W hW => ⟨(hW.block t hk3.lt).trans hk3, (bTrans hb3 hW |>.block r HK.out.lt).trans HK.out⟩
  have HE3 := Lib.hid (And.intro hw3 ht)
  have HM := Lib.hid (sp_empty m n w3)
  have HV : Hid (crossS a b c d = if n ≤ m then (0, 0) else (m, n)) := Lib.hid (by unfold crossS; rw [hm, hn])
  clear hw3 ht hk3 hb3 HB
  go_upto_region 2 with fail
  rw [HE3.out.1, HE3.out.2]
  clear A0 A1 C0 C1 HE3 hm hn
  obtain ⟨k1, k2⟩ := HC.out w3 (Below.refl _ _)
  have T0 : w3.cell? ⟨t, 0, none⟩ = some (.int .i64 m) := k1.cell 0
  have T1 : w3.cell? ⟨t, 1, none⟩ = some (.int .i64 n) := k1.cell 1
  clear k1 k2
  go_wp2_with fail
  refine HM.out.mono ?_
  rintro e w4 ⟨rfl, hb4⟩
  obtain ⟨k1, k2⟩ := HC.out w4 hb4
  have HB4 := Lib.hid (bTrans HB3.out hb4)
  clear T0 T1 hb4 HM HC HB3
  have T0 : w4.cell? ⟨t, 0, none⟩ = some (.int .i64 m) := k1.cell 0
  have T1 : w4.cell? ⟨t, 1, none⟩ = some (.int .i64 n) := k1.cell 1
  have R0 : w4.cell? ⟨r, 0, none⟩ = some (.int .i64 0) := k2.cell 0
  have R1 : w4.cell? ⟨r, 1, none⟩ = some (.int .i64 0) := k2.cell 1
  have G0 : w4.frozen? ⟨r, 0, none⟩ = false := k2.frozen 0
  have G1 : w4.frozen? ⟨r, 1, none⟩ = false := k2.frozen 1
  have HFIN : Hid (∀ x y, ((w4.setCell ⟨r, 0, none⟩ x).setCell ⟨r, 1, none⟩ y).cell? ⟨r, 0, none⟩ = some x ∧ ((w4.setCell ⟨r, 0, none⟩ x).setCell ⟨r, 1, none⟩ y).cell? ⟨r, 1, none⟩ = some y ∧ Below w.heap.size w ((w4.setCell ⟨r, 0, none⟩ x).setCell ⟨r, 1, none⟩ y)) := Lib.hid fun x y => by
    have hz := (k2.set_ 0 x).set_ 1 y
    exact ⟨hz.cell 0, hz.cell 1, (HB4.out.setCell (p := ⟨r, 0, none⟩) hw.out x).setCell (p := ⟨r, 1, none⟩) hw.out y⟩
  clear k1 k2 HB4 HK
  by_cases h : n ≤ m
  · have b0 : decide (n ≤ m) = true := decide_eq_true h
    rw [if_pos h] at HV
    clear h
    go_wp2
    obtain ⟨z0, z1, z2⟩ := HFIN.out (.int .i64 0) (.int .i64 0)
    exact bodyPost_ret (v := .agg #[.int .i64 0, .int .i64 0]) (by simp [results, Tryz.results54, go_sem, z0, z1]) rfl ⟨by rw [HV.out], z2⟩
  · have b0 : decide (n ≤ m) = false := decide_eq_false h
    rw [if_neg h] at HV
    clear h
    go_wp2
    obtain ⟨z0, z1, z2⟩ := HFIN.out (.int .i64 m) (.int .i64 n)
    exact bodyPost_ret (v := .agg #[.int .i64 m, .int .i64 n]) (by simp [results, Tryz.results54, go_sem, z0, z1]) rfl ⟨by rw [HV.out], z2⟩
end Go.Proofs.YtlgoaohklggcdaaGreatDoor

namespace Go.Proofs.YtlgoaohklggcdaaGreatDoor
open Go.RowKit Go.Sort

abbrev Spn := Int × Int
def encSp (x : Spn) : List Value := [.int .i64 x.1, .int .i64 x.2]
theorem encSp_len (x : Spn) : (encSp x).length = 2 := rfl
theorem encSp_one (x : Spn) : ∀ u ∈ encSp x, u.oneCell' = true := by
  intro u hu
  simp [encSp] at hu
  rcases hu with rfl | rfl <;> rfl
abbrev OwnSp (B : Nat) (v : Value) (l : List Spn) (w : World) : Prop := Own encSp 2 31 B v l w
theorem spanInfo : (Tryz.prog.info? 31).map (fun i => (i.zero, i.size, i.bytes)) = some (some (.agg #[.int .i64 0, .int .i64 0]), 2, 16) := by kernel_rfl
theorem newsSp (x : Spn) (w : World) : ∀ j u, (encSp x)[j]? = some u → (w.alloc (.cells #[.int .i64 x.1, .int .i64 x.2] 31)).cell? ⟨w.heap.size, j, none⟩ = some u := by
  intro j u hu
  have h := Bk.new w 31 #[.int .i64 x.1, .int .i64 x.2]
  rw [h.cell]
  simpa [encSp] using hu
theorem belowSp {B : Nat} {w0 w w' : World} {v : Value} {l : List Spn} (h : Below B w0 w) (hB : B ≤ w.heap.size) (ho : OwnSp B v l w) (hg : w.grownBy w' v.ownBlock) : Below B w0 w' :=
  h.trans ⟨hg.os, hg.tape, hg.output, hg.size, fun i hi => hg.block i (by omega) (ho.far hi)⟩
theorem sliceSp_new (w : World) : Own encSp 2 31 w.heap.size (.slice (some ⟨w.heap.size, 0, none⟩) 0 0) [] (w.alloc (.cells #[] 31)) := own_empty (Bk.new w _ #[]) (Nat.le_refl _)
theorem sliceDd_new (w : World) : Own encDd 1 29 w.heap.size (.slice (some ⟨w.heap.size, 0, none⟩) 0 0) [] (w.alloc (.cells #[] 29)) := own_empty (Bk.new w _ #[]) (Nat.le_refl _)
set_option maxRecDepth 10000 in
theorem sp_Clone (L : List Spn) (A : Option Addr) (cap : Nat) (w : World) (hn : L.length ≤ maxLen) (hr : L.length * 16 ≤ 140737488355328) (hs : Sl encSp 2 w w.heap.size A L) :
    Calls Tryz.prog 117 #[.slice A L.length cap] w fun e w' => (∃ A' c', e = .returned (.slice A' L.length c') ∧ OwnSp w.heap.size (.slice A' L.length c') L w') ∧ Below w.heap.size w w' := by
  obtain ⟨i, hi1, hz, hsize, hby⟩ := info_parts spanInfo
  have q58 : ∀ (w : World) (a : Option Addr) (n c n' c' : Nat), (binOp .eql 72 (.slice a n c) (.slice none n' c')).run Tryz.prog w = .ok (.bool a.isNone) w := fun w a n c n' c' => Lib.run_eql_slice_nil w _ _ a n c n' c' Tryz.underlying72
  cases A with
  | none =>
    have h0 : L = [] := by
      cases L with
      | nil => rfl
      | cons x r => obtain ⟨b, off, e, _⟩ := hs (by simp); cases e
    subst h0
    clear hs hn hr
    go_enter Tryz.func117, Tryz.ntmps117
    go_wp2
    go_ret
    exact ⟨⟨none, 0, rfl, Own.nil _⟩, Below.refl _ _⟩
  | some ad =>
    have hnews : Hid (∀ j u, (rowOf encSp L)[j]? = some u → w.cell? (ad.add j) = some u) := Lib.hid fun j u hu => by
      have hl : L ≠ [] := by intro h; subst h; simp [rowOf] at hu
      obtain ⟨b, off, e, hlt, hc⟩ := hs hl
      cases e
      rw [Addr.add_lit]
      exact Sl.newsN encSp_len hc j u hu
    clear hs
    go_enter Tryz.func117, Tryz.ntmps117
    go_wp2_with (at_builtin; refine wpList_append_own _ rfl _ _ 72 rfl w.heap.size 31 i _ 2 16 Tryz.underlying72 hi1 hz hsize hby rfl (by decide) _ 0 [] rfl (sliceSp_new w) ad L.length cap (rowOf encSp L) rfl ?q1 ?q2 ?q3 ?q4 ?q5 ?q6 ?_)
    case q1 => exact rowOf_length encSp_len L
    case q2 => exact fun j u hu => Lib.cell?_alloc_some _ (hnews.out j u hu)
    case q3 =>
      intro u hu
      unfold rowOf at hu
      rw [List.mem_flatMap] at hu
      obtain ⟨x, _, hx⟩ := hu
      exact encSp_one x u hx
    case q4 => rw [Nat.zero_add]; exact hn
    case q5 => rw [Nat.zero_add]; exact hr
    case q6 => exact Nat.le_of_lt (size_new _ _)
    intro v' w1 hown hgrow _
    have ho : OwnSp w.heap.size v' L w1 := hown
    obtain ⟨A', c', rfl, _, _⟩ := own_sl encSp_len ho
    have HS := Lib.hid ho
    have HB : Hid (Below w.heap.size w w1) := Lib.hid (bel_own (bAlloc w _) (Nat.le_of_lt (size_new _ _)) (sliceSp_new w) hgrow)
    clear hown hgrow ho
    go_wp2
    go_ret
    exact ⟨⟨A', c', rfl, HS.out⟩, HB.out⟩
set_option maxRecDepth 10000 in
theorem dd_Clone (L : List Int) (A : Option Addr) (cap : Nat) (w : World) (hn : L.length ≤ maxLen) (hr : L.length * 8 ≤ 140737488355328) (hs : Sl encDd 1 w w.heap.size A L) :
    Calls Tryz.prog 99 #[.slice A L.length cap] w fun e w' => (∃ A' c', e = .returned (.slice A' L.length c') ∧ OwnDd w.heap.size (.slice A' L.length c') L w') ∧ Below w.heap.size w w' := by
  obtain ⟨i, hi1, hz, hsize, hby⟩ := info_parts dayInfo
  have q58 : ∀ (w : World) (a : Option Addr) (n c n' c' : Nat), (binOp .eql 79 (.slice a n c) (.slice none n' c')).run Tryz.prog w = .ok (.bool a.isNone) w := fun w a n c n' c' => Lib.run_eql_slice_nil w _ _ a n c n' c' Tryz.underlying79
  cases A with
  | none =>
    have h0 : L = [] := by
      cases L with
      | nil => rfl
      | cons x r => obtain ⟨b, off, e, _⟩ := hs (by simp); cases e
    subst h0
    clear hs hn hr
    go_enter Tryz.func99, Tryz.ntmps99
    go_wp2
    go_ret
    exact ⟨⟨none, 0, rfl, Own.nil _⟩, Below.refl _ _⟩
  | some ad =>
    have hnews : Hid (∀ j u, (rowOf encDd L)[j]? = some u → w.cell? (ad.add j) = some u) := Lib.hid fun j u hu => by
      have hl : L ≠ [] := by intro h; subst h; simp [rowOf] at hu
      obtain ⟨b, off, e, hlt, hc⟩ := hs hl
      cases e
      rw [Addr.add_lit]
      exact Sl.newsN encDd_len hc j u hu
    clear hs
    go_enter Tryz.func99, Tryz.ntmps99
    go_wp2_with (at_builtin; refine wpList_append_own _ rfl _ _ 79 rfl w.heap.size 29 i _ 1 8 Tryz.underlying79 hi1 hz hsize hby rfl (by decide) _ 0 [] rfl (sliceDd_new w) ad L.length cap (rowOf encDd L) rfl ?q1 ?q2 ?q3 ?q4 ?q5 ?q6 ?_)
    case q1 => exact rowOf_length encDd_len L
    case q2 => exact fun j u hu => Lib.cell?_alloc_some _ (hnews.out j u hu)
    case q3 =>
      intro u hu
      unfold rowOf at hu
      rw [List.mem_flatMap] at hu
      obtain ⟨x, _, hx⟩ := hu
      exact encDd_one x u hx
    case q4 => rw [Nat.zero_add]; exact hn
    case q5 => rw [Nat.zero_add]; exact hr
    case q6 => exact Nat.le_of_lt (size_new _ _)
    intro v' w1 hown hgrow _
    have ho : OwnDd w.heap.size v' L w1 := hown
    obtain ⟨A', c', rfl, _, _⟩ := own_sl encDd_len ho
    have HS := Lib.hid ho
    have HB : Hid (Below w.heap.size w w1) := Lib.hid (bel_own (bAlloc w _) (Nat.le_of_lt (size_new _ _)) (sliceDd_new w) hgrow)
    clear hown hgrow ho
    go_wp2
    go_ret
    exact ⟨⟨A', c', rfl, HS.out⟩, HB.out⟩
/-- The pieces of a span, cut at rising days. -/
def pcsS (F T : Int) : List Int → List Spn
  | [] => [(F, T)]
  | d :: C => if F < d ∧ d < T then (F, d) :: pcsS d T C else pcsS F T C
def piecesS (F T : Int) (C : List Int) : List Spn := if T ≤ F then [] else pcsS F T (C.mergeSort fun x y => decide (x ≤ y))
/-- What stands behind k days: the pieces, and where the last one begins. -/
def pcsK (T : Int) (s : List Spn × Int) (d : Int) : List Spn × Int := if s.2 < d ∧ d < T then (s.1 ++ [(s.2, d)], d) else s
theorem pcsS_fold (T : Int) : ∀ (C : List Int) (O : List Spn) (F : Int), (C.foldl (pcsK T) (O, F)).1 ++ [((C.foldl (pcsK T) (O, F)).2, T)] = O ++ pcsS F T C
  | [], O, F => rfl
  | d :: C, O, F => by
    rw [List.foldl_cons, pcsS]
    unfold pcsK
    by_cases h : F < d ∧ d < T
    · rw [if_pos h, if_pos h]
      have := pcsS_fold T C (O ++ [(F, d)]) d
      rw [show (pcsK T) = fun s d => if s.2 < d ∧ d < T then (s.1 ++ [(s.2, d)], d) else s from rfl] at this
      rw [this, List.append_assoc]; rfl
    · rw [if_neg h, if_neg h]
      exact pcsS_fold T C O F
theorem pcsK_len (T : Int) : ∀ (C : List Int) (s : List Spn × Int), (C.foldl (pcsK T) s).1.length ≤ s.1.length + C.length
  | [], _ => by simp
  | d :: C, s => by
    rw [List.foldl_cons]
    have h1 := pcsK_len T C (pcsK T s d)
    have h2 : (pcsK T s d).1.length ≤ s.1.length + 1 := by
      unfold pcsK
      split
      · simp
      · omega
    rw [List.length_cons]; omega
theorem pcsK_take {T F : Int} {C : List Int} {k : Nat} {d : Int} (h : C[k]? = some d) : (C.take (k + 1)).foldl (pcsK T) ([], F) = pcsK T ((C.take k).foldl (pcsK T) ([], F)) d := by
  rw [List.take_add_one, h, List.foldl_append]
  rfl
set_option maxHeartbeats 8000000 in
set_option maxRecDepth 100000 in
theorem sp_Pieces (F T : Int) (C : List Int) (A : Option Addr) (cap : Nat) (w : World) (hn : C.length ≤ 100000) (hs : Sl encDd 1 w w.heap.size A C) :
    Calls Tryz.prog 58 #[.agg #[.int .i64 F, .int .i64 T], .slice A C.length cap] w fun e w' => (∃ v, e = .returned v ∧ OwnSp w.heap.size v (piecesS F T C) w') ∧ Below w.heap.size w w' := by
  obtain ⟨sb, hsb⟩ : ∃ x, w.heap.size = x := ⟨_, rfl⟩
  obtain ⟨w2, hw2⟩ : ∃ x, w.alloc (.cells #[.int .i64 F, .int .i64 T] 31) = x := ⟨_, rfl⟩
  have hk : Bk sb 31 #[.int .i64 F, .int .i64 T] w2 := by rw [← hw2, ← hsb]; exact Bk.new _ _ _
  have hb : Below w.heap.size w w2 := by rw [← hw2]; exact bAlloc _ _
  have HB := Lib.hid hb
  have HC : Hid (∀ W, Below w2.heap.size w2 W → W.cell? ⟨sb, 0, none⟩ = some (.int .i64 F) ∧ W.cell? ⟨sb, 1, none⟩ = some (.int .i64 T) ∧ Sl encDd 1 W W.heap.size A C) := Lib.hid fun W hW => ⟨bCell hW (hk.cell 0), bCell hW (hk.cell 1), sl_bel hs (bTrans hb hW)⟩
  have HE := Lib.hid (And.intro hw2 hsb)
  have HM := Lib.hid (sp_empty F T w2)
  clear hw2 hsb hk hb hs
  go_enter Tryz.func58, Tryz.ntmps58
  go_upto_region 1 with fail
  rw [HE.out.1, HE.out.2]
  clear HE
  obtain ⟨c0, c1, _⟩ := HC.out w2 (Below.refl _ _)
  go_wp2_with fail
  refine HM.out.mono ?_
  rintro e w3 ⟨rfl, hb3⟩
  obtain ⟨d0, d1, hs3⟩ := HC.out w3 hb3
  have HB3 : Hid (Below w2.heap.size w2 w3) := Lib.hid hb3
  clear c0 c1 hb3 HM
  by_cases h : T ≤ F
  · have b0 : decide (T ≤ F) = true := decide_eq_true h
    have HV : Hid (piecesS F T C = []) := Lib.hid (if_pos h)
    clear h hs3
    go_wp2
    go_ret
    exact ⟨⟨_, rfl, by rw [HV.out]; exact Own.nil _⟩, bTrans HB.out HB3.out⟩
  · have b0 : decide (T ≤ F) = false := decide_eq_false h
    have HV : Hid (piecesS F T C = pcsS F T (C.mergeSort fun x y => decide (x ≤ y))) := Lib.hid (if_neg h)
    have HCL := Lib.hid (dd_Clone C A cap w3 (by simp only [maxLen]; omega) (by omega) hs3)
    clear h hs3
    go_wp2_with fail
    refine HCL.out.mono ?_
    rintro e w4 ⟨⟨A4, c4, rfl, ho4⟩, hb4⟩
    have HB4 : Hid (Below w2.heap.size w2 w4) := Lib.hid (bTrans HB3.out hb4)
    have HSO := Lib.hid (dd_SortO ho4 (by omega))
    have HO4 := Lib.hid ho4
    clear hb4 ho4 HCL d0 d1
    go_wp2_with fail
    refine HSO.out.mono ?_
    rintro e w5 ⟨rfl, ho5, hg5⟩
    have HB5 : Hid (Below w2.heap.size w2 w5) := Lib.hid (belowDd HB4.out HB4.out.size (ownDd_base HO4.out HB3.out.size) hg5)
    obtain ⟨D, hD⟩ : ∃ D, (C.mergeSort fun x y => decide (x ≤ y)) = D := ⟨_, rfl⟩
    have hDl : D.length = C.length := by rw [← hD, List.length_mergeSort]
    rw [hD] at ho5 HV
    obtain ⟨A5, c5, he5, hc5⟩ := OwnDd.sl_ ho5
    rw [← hDl] at he5 ⊢
    injection he5 with he5 _ _
    subst he5
    have HCT : Hid (∀ W, Below w5.heap.size w5 W → D ≠ [] → ∃ b, A4 = some ⟨b, 0, none⟩ ∧ ∀ (i : Nat) (d : Int), D[i]? = some d → W.cell? ⟨b, 0 + i, none⟩ = some (.int .i64 d)) := Lib.hid fun W hW hne => by
      obtain ⟨b, e, _, hat⟩ := hc5 hne
      exact ⟨b, e, fun i d hd => bCell hW (hat i d hd)⟩
    have HCS : Hid (∀ W, Below w5.heap.size w5 W → W.cell? ⟨sb, 0, none⟩ = some (.int .i64 F) ∧ W.cell? ⟨sb, 1, none⟩ = some (.int .i64 T)) := Lib.hid fun W hW => by
      obtain ⟨e0, e1, _⟩ := HC.out W (bTrans HB5.out hW)
      exact ⟨e0, e1⟩
    have hDn : D.length ≤ 100000 := by omega
    clear hD hDl ho5 hg5 hc5 HSO HO4 HB4 HB3 HC hn
    obtain ⟨d0, d1⟩ := HCS.out w5 (Below.refl _ _)
    go_wp2
    go_loopw [6, 7, 20] (fun ov fv iv wr => ∃ (k : Nat) (O : List Spn) (f : Int), k ≤ D.length ∧ iv = .int .i64 k ∧ fv = .int .i64 f ∧ Hid ((D.take k).foldl (pcsK T) ([], F) = (O, f)) ∧ Hid (OwnSp w5.heap.size ov O wr) ∧ Hid (Below w5.heap.size w5 wr)) (fun _ _ iv _ => D.length - (intOf iv).toNat)
    case atStart => exact ⟨0, [], F, Nat.zero_le _, rfl, rfl, Lib.hid rfl, Lib.hid (Own.nil _), Lib.hid (Below.refl _ _)⟩
    case round =>
      clear d0 d1
      obtain ⟨k, O, f, hk, rfl, rfl, HS, HO, HBr⟩ := hrel
      have hOl : O.length ≤ 100000 := by
        have h1 := pcsK_len T (D.take k) ([], F)
        rw [HS.out, List.length_take] at h1
        simp only [List.length_nil] at h1
        omega
      have HSZ : Hid (w5.heap.size ≤ wr.heap.size) := Lib.hid HBr.out.size
      obtain ⟨d0, d1⟩ := HCS.out wr HBr.out
      by_cases hlt : k < D.length
      · obtain ⟨d, hd⟩ : ∃ d, D[k]? = some d := ⟨_, List.getElem?_eq_getElem hlt⟩
        obtain ⟨b, rfl, hat⟩ := HCT.out wr HBr.out (by intro h; simp [h] at hlt)
        have E0 := hat k d hd
        rw [Nat.zero_add] at E0
        have hlt2 : (k : Int) < (D.length : Int) := by omega
        have HST := Lib.hid (pcsK_take (T := T) (F := F) hd)
        rw [HS.out] at HST
        unfold pcsK at HST
        obtain ⟨x1, hx1⟩ : ∃ z, decide (f < d) = z := ⟨_, rfl⟩
        obtain ⟨x2, hx2⟩ : ∃ z, decide (d < T) = z := ⟨_, rfl⟩
        clear hat hd
        cases x1 with
        | false =>
          have HS2 : Hid ((D.take (k + 1)).foldl (fun s d => if s.2 < d ∧ d < T then (s.1 ++ [(s.2, d)], d) else s) ([], F) = (O, f)) := Lib.hid (by rw [HST.out, if_neg (fun h => of_decide_eq_false hx1 h.1)])
          go_wp2
          exact ⟨⟨k + 1, O, f, by omega, by go_num, rfl, HS2, HO, HBr⟩, by simp [intOf]; omega⟩
        | true =>
          cases x2 with
          | false =>
            have HS2 : Hid ((D.take (k + 1)).foldl (fun s d => if s.2 < d ∧ d < T then (s.1 ++ [(s.2, d)], d) else s) ([], F) = (O, f)) := Lib.hid (by rw [HST.out, if_neg (fun h => of_decide_eq_false hx2 h.2)])
            go_wp2
            exact ⟨⟨k + 1, O, f, by omega, by go_num, rfl, HS2, HO, HBr⟩, by simp [intOf]; omega⟩
          | true =>
            have HS2 : Hid ((D.take (k + 1)).foldl (fun s d => if s.2 < d ∧ d < T then (s.1 ++ [(s.2, d)], d) else s) ([], F) = (O ++ [(f, d)], d)) := Lib.hid (by rw [HST.out, if_pos ⟨of_decide_eq_true hx1, of_decide_eq_true hx2⟩])
            go_wp2_with ((at_builtin; refine wpList_append_row encSp_len encSp_one rfl _ _ 72 rfl w5.heap.size 31 _ 16 Tryz.underlying72 spanInfo rfl (by decide) _ O (f, d) rfl (HO.out.alloc _) wr.heap.size 1 rfl (newsSp (f, d) wr) (by omega) (by decide) (Nat.le_trans HSZ.out (Grows.of_alloc _ _).size) ?_))
            intro v6 w6 hown6 hgr6
            have HB6 : Hid (Below w5.heap.size w5 w6) := Lib.hid (belowSp (bTrans HBr.out (bAlloc wr _)) (Nat.le_trans HSZ.out (Grows.of_alloc _ _).size) (HO.out.alloc _) hgr6)
            have HO6 := Lib.hid hown6
            clear hown6 hgr6
            go_wp2
            exact ⟨⟨k + 1, O ++ [(f, d)], d, by omega, by go_num, rfl, HS2, HO6, HB6⟩, by simp [intOf]; omega⟩
      · obtain rfl : k = D.length := by omega
        rw [List.take_length] at HS
        have HV2 : Hid (piecesS F T C = O ++ [(f, T)]) := Lib.hid (by
          have := pcsS_fold T D [] F
          rw [HS.out, List.nil_append] at this
          rw [HV.out, ← this])
        go_wp2_with ((at_builtin; refine wpList_append_row encSp_len encSp_one rfl _ _ 72 rfl w5.heap.size 31 _ 16 Tryz.underlying72 spanInfo rfl (by decide) _ O (f, T) rfl (HO.out.alloc _) wr.heap.size 1 rfl (newsSp (f, T) wr) (by omega) (by decide) (Nat.le_trans HSZ.out (Grows.of_alloc _ _).size) ?_))
        intro v6 w6 hown6 hgr6
        have HB6 : Hid (Below w5.heap.size w5 w6) := Lib.hid (belowSp (bTrans HBr.out (bAlloc wr _)) (Nat.le_trans HSZ.out (Grows.of_alloc _ _).size) (HO.out.alloc _) hgr6)
        have HO6 := Lib.hid hown6
        clear hown6 hgr6
        go_wp2
        go_ret
        exact ⟨⟨v6, rfl, by rw [HV2.out]; exact own_down HO6.out (bTrans HB.out HB5.out).size⟩, bTrans HB.out (bTrans HB5.out HB6.out)⟩
end Go.Proofs.YtlgoaohklggcdaaGreatDoor

namespace Go.Proofs.YtlgoaohklggcdaaGreatDoor
open Go.RowKit Go.Sort

theorem set_All (L : List Spn) (A : Option Addr) (cap : Nat) (w : World) (hn : L.length ≤ 100000) (hs : Sl encSp 2 w w.heap.size A L) :
    Calls Tryz.prog 72 #[.agg #[.slice A L.length cap]] w fun e w' => (∃ A' c', e = .returned (.slice A' L.length c') ∧ OwnSp w.heap.size (.slice A' L.length c') L w') ∧ Below w.heap.size w w' := by
  have hb := bAlloc w (.cells #[.slice A L.length cap] 74)
  have HB := Lib.hid hb
  have C0 : (w.alloc (.cells #[.slice A L.length cap] 74)).cell? ⟨w.heap.size, 0, none⟩ = some (.slice A L.length cap) := (Bk.new _ _ _).cell 0
  have HCL := Lib.hid (sp_Clone L A cap (w.alloc (.cells #[.slice A L.length cap] 74)) (by simp only [maxLen]; omega) (by omega) (sl_bel hs hb))
  clear hs hb
  go_enter Tryz.func72, Tryz.ntmps72
  go_wp2_with fail
  refine HCL.out.mono ?_
  rintro e w3 ⟨⟨A', c', rfl, ho⟩, hb3⟩
  have HO := Lib.hid (own_down ho HB.out.size)
  have HB3 := Lib.hid (bTrans HB.out hb3)
  clear ho hb3 HCL
  go_wp2
  go_ret
  exact ⟨⟨A', c', rfl, HO.out⟩, HB3.out⟩
/-- A span behind others. -/
def joinS (L : List Spn) (F T : Int) : List Spn := if T ≤ F then L else match L.reverse with
  | [] => [(F, T)]
  | (a, b) :: r => if F ≤ b then r.reverse ++ [(a, max b T)] else L ++ [(F, T)]
theorem joinS_empty {L : List Spn} {F T : Int} (h : T ≤ F) : joinS L F T = L := if_pos h
theorem joinS_nil {F T : Int} (h : ¬ T ≤ F) : joinS [] F T = [(F, T)] := by unfold joinS; rw [if_neg h]; rfl
theorem joinS_in {O : List Spn} {a b F T : Int} (h : ¬ T ≤ F) (hF : F ≤ b) : joinS (O ++ [(a, b)]) F T = O ++ [(a, max b T)] := by
  unfold joinS
  rw [if_neg h, List.reverse_append, List.reverse_singleton, List.singleton_append]
  simp [hF]
theorem joinS_out {O : List Spn} {a b F T : Int} (h : ¬ T ≤ F) (hF : ¬ F ≤ b) : joinS (O ++ [(a, b)]) F T = O ++ [(a, b)] ++ [(F, T)] := by
  unfold joinS
  rw [if_neg h, List.reverse_append, List.reverse_singleton, List.singleton_append]
  simp [hF]
theorem joinS_len (L : List Spn) (F T : Int) : (joinS L F T).length ≤ L.length + 1 := by
  unfold joinS
  split
  · omega
  · split
    · simp
    · rename_i a b r hr
      have : L.length = r.length + 1 := by rw [← List.length_reverse, hr]; rfl
      split <;> simp <;> omega
theorem setLast {O : List Spn} {a b c : Int} : (rowOf encSp (O ++ [(a, b)])).set (O.length * 2 + 1) (.int .i64 c) = rowOf encSp (O ++ [(a, c)]) := by
  rw [rowOf_append, rowOf_append]
  have hl : (rowOf encSp O).length = O.length * 2 := rowOf_length encSp_len O
  rw [List.set_append_right _ _ (by omega), hl, Nat.add_sub_cancel_left]
  rfl
theorem ownLast {B : Nat} {v : Value} {O : List Spn} {x : Spn} {w : World} (h : w.ownsRow B 31 2 v (O.length + 1) (rowOf encSp (O ++ [x]))) : OwnSp B v (O ++ [x]) w := by
  show w.ownsRow B _ 2 v (O ++ [x]).length _
  rw [show (O ++ [x]).length = O.length + 1 by simp]
  exact h
theorem lastOf {B cp : Nat} {A : Option Addr} {O : List Spn} {x : Spn} {w : World} (h : OwnSp B (.slice A (O.length + 1) cp) (O ++ [x]) w) :
    ∃ g, A = some ⟨g, 0, none⟩ ∧ B ≤ g ∧ g < w.heap.size ∧ (∀ j u, (encSp x)[j]? = some u → w.cell? ⟨g, O.length * 2 + j, none⟩ = some u) ∧ w.ownsRow B 31 2 (.slice (some ⟨g, 0, none⟩) (O.length + 1) cp) (O.length + 1) (rowOf encSp (O ++ [x])) := by
  obtain ⟨g, cap, hv, hb, hr⟩ := Own.row encSp_len h (by simp)
  injection hv with h1 h2 h3
  subst h1; subst h3
  refine ⟨g, rfl, hb, hr.lt, fun j u hu => hr.cell (i := O.length) (by simp) hu, ?_⟩
  have h2 : w.ownsRow B 31 2 (.slice (some ⟨g, 0, none⟩) (O.length + 1) cp) (O ++ [x]).length (rowOf encSp (O ++ [x])) := h
  rwa [show (O ++ [x]).length = O.length + 1 by simp] at h2
set_option maxHeartbeats 4000000 in
set_option maxRecDepth 100000 in
theorem sp_join {B : Nat} {v : Value} {L : List Spn} (F T : Int) {w : World} (h : OwnSp B v L w) (hL : L.length ≤ 100000) (hB : B ≤ w.heap.size) :
    Calls Tryz.prog 120 #[v, .agg #[.int .i64 F, .int .i64 T]] w fun e w' => (∃ v', e = .returned v' ∧ OwnSp B v' (joinS L F T) w') ∧ Below B w w' := by
  obtain ⟨sb, hsb⟩ : ∃ x, w.heap.size = x := ⟨_, rfl⟩
  obtain ⟨w2, hw2⟩ : ∃ x, w.alloc (.cells #[.int .i64 F, .int .i64 T] 31) = x := ⟨_, rfl⟩
  have hk : Bk sb 31 #[.int .i64 F, .int .i64 T] w2 := by rw [← hw2, ← hsb]; exact Bk.new _ _ _
  have hb : Below w.heap.size w w2 := by rw [← hw2]; exact bAlloc _ _
  have HC : Hid (∀ W, Below w2.heap.size w2 W → W.cell? ⟨sb, 0, none⟩ = some (.int .i64 F) ∧ W.cell? ⟨sb, 1, none⟩ = some (.int .i64 T) ∧ OwnSp B v L W ∧ Below B w W ∧ B ≤ W.heap.size) := Lib.hid fun W hW => by
    have hz := hW.size
    have hz2 := hb.size
    exact ⟨bCell hW (hk.cell 0), bCell hW (hk.cell 1), own_bel (own_bel h hb) hW, (bTrans hb hW).mono hB, by omega⟩
  have HE := Lib.hid (And.intro hw2 hsb)
  have HM := Lib.hid (sp_empty F T w2)
  obtain ⟨A, cp, rfl, _, _⟩ := own_sl encSp_len h
  have hsplit : L = [] ∨ ∃ O a b, L = O ++ [(a, b)] := by
    rcases List.eq_nil_or_concat L with h | ⟨O, x, h⟩
    · exact .inl h
    · exact .inr ⟨O, x.1, x.2, by rw [h, List.concat_eq_append]⟩
  clear hw2 hsb hk hb h
  go_enter Tryz.func120, Tryz.ntmps120
  go_upto_region 1 with fail
  rw [HE.out.1, HE.out.2]
  clear HE
  obtain ⟨c0, c1, _⟩ := HC.out w2 (Below.refl _ _)
  go_upto_region 2 with fail
  go_wp2_with fail
  refine HM.out.mono ?_
  rintro e w3 ⟨rfl, hb3⟩
  obtain ⟨d0, d1, ho3, hb3', hz3⟩ := HC.out w3 hb3
  have HO := Lib.hid ho3
  have HB := Lib.hid hb3'
  have HZ := Lib.hid hz3
  clear c0 c1 hb3 HM HC ho3 hb3' hz3
  by_cases hT : T ≤ F
  · have b0 : decide (T ≤ F) = true := decide_eq_true hT
    have HV : Hid (joinS L F T = L) := Lib.hid (joinS_empty hT)
    clear hT
    go_wp2
    go_ret
    exact ⟨⟨_, rfl, by rw [HV.out]; exact HO.out⟩, HB.out⟩
  · have b0 : decide (T ≤ F) = false := decide_eq_false hT
    rcases hsplit with rfl | ⟨O, a, b, rfl⟩
    · have HV : Hid (joinS [] F T = [(F, T)]) := Lib.hid (joinS_nil hT)
      clear hT
      go_wp2
      go_quiet (fail)
      rename_i nq
      have HO2 : Hid (OwnSp B (.slice A 0 cp) [] (w3.drewN nq)) := Lib.hid (own_bel HO.out (bDrewN w3 nq))
      have HBq : Hid (Below B w (w3.drewN nq)) := Lib.hid (HB.out.trans ((bDrewN w3 nq).mono HZ.out))
      go_wp2_with ((at_builtin; refine wpList_append_row encSp_len encSp_one rfl _ _ 72 rfl B 31 _ 16 Tryz.underlying72 spanInfo rfl (by decide) _ [] (F, T) rfl (HO2.out.alloc _) w3.heap.size 1 rfl (newsSp (F, T) (w3.drewN nq)) (by simp) (by decide) (Nat.le_trans HZ.out (Grows.of_alloc (w3.drewN nq) _).size) ?_))
      intro v6 w6 hown6 hgr6
      have HB6 : Hid (Below B w w6) := Lib.hid (belowSp (HBq.out.trans ((bAlloc (w3.drewN nq) _).mono HZ.out)) (Nat.le_trans HZ.out (Grows.of_alloc (w3.drewN nq) _).size) (HO2.out.alloc _) hgr6)
      have HO6 := Lib.hid hown6
      clear hown6 hgr6
      go_wp2
      go_ret
      exact ⟨⟨v6, rfl, by rw [HV.out]; exact HO6.out⟩, HB6.out⟩
    · have hlen : (O ++ [(a, b)]).length = O.length + 1 := by simp
      rw [hlen] at hL HO ⊢
      clear hlen
      obtain ⟨g, rfl, hg1, hg2, hc, hrow⟩ := lastOf HO.out
      have D0 := hc 0 _ rfl
      have D1 := hc 1 _ rfl
      have F1 := World.ownsRow.frozenAt hrow (O.length * 2 + 1)
      have HRW := Lib.hid hrow
      have HG := Lib.hid (And.intro hg1 hg2)
      clear hc hrow
      have hi1 : (O.length : Int) < (O.length : Int) + 1 := by omega
      have hi2 : O.length < O.length + 1 := by omega
      have hi3 : ¬ ((O.length : Int) < 0) := by omega
      have hi4 : (0 : Int) ≤ (O.length : Int) := by omega
      by_cases hF : F ≤ b
      · have b1 : decide (F ≤ b) = true := decide_eq_true hF
        have HV : Hid (joinS (O ++ [(a, b)]) F T = O ++ [(a, max b T)]) := Lib.hid (joinS_in hT hF)
        clear hT hF
        go_wp2
        go_quiet (fail)
        rename_i nq
        go_upto_region 5 with fail
        go_region
        go_wp2
        go_ret
        have hst := World.ownsRow.stored HRW.out (O.length * 2 + 1) (.int .i64 (max b T))
        rw [setLast] at hst
        refine ⟨⟨_, rfl, by rw [HV.out]; exact ownLast hst.1⟩, ?_⟩
        exact HB.out.trans ⟨rfl, rfl, rfl, hst.2.size, fun i hi => hst.2.block i (Nat.lt_of_lt_of_le hi HZ.out) (fun he => by injection he with he; have := HG.out.1; omega)⟩
      · have b1 : decide (F ≤ b) = false := decide_eq_false hF
        have HV : Hid (joinS (O ++ [(a, b)]) F T = O ++ [(a, b)] ++ [(F, T)]) := Lib.hid (joinS_out hT hF)
        clear hT hF
        go_wp2
        go_quiet (fail)
        rename_i nq
        have HO2 : Hid (OwnSp B (.slice (some ⟨g, 0, none⟩) (O.length + 1) cp) (O ++ [(a, b)]) (w3.drewN nq)) := Lib.hid (own_bel HO.out (bDrewN w3 nq))
        have HBq : Hid (Below B w (w3.drewN nq)) := Lib.hid (HB.out.trans ((bDrewN w3 nq).mono HZ.out))
        go_wp2_with ((at_builtin; refine wpList_append_row encSp_len encSp_one rfl _ _ 72 rfl B 31 _ 16 Tryz.underlying72 spanInfo rfl (by decide) _ (O ++ [(a, b)]) (F, T) rfl (HO2.out.alloc _) w3.heap.size 1 rfl (newsSp (F, T) (w3.drewN nq)) (by simp; omega) (by decide) (Nat.le_trans HZ.out (Grows.of_alloc (w3.drewN nq) _).size) ?_))
        intro v6 w6 hown6 hgr6
        have HB6 : Hid (Below B w w6) := Lib.hid (belowSp (HBq.out.trans ((bAlloc (w3.drewN nq) _).mono HZ.out)) (Nat.le_trans HZ.out (Grows.of_alloc (w3.drewN nq) _).size) (HO2.out.alloc _) hgr6)
        have HO6 := Lib.hid hown6
        clear hown6 hgr6
        go_wp2
        go_ret
        exact ⟨⟨v6, rfl, by rw [HV.out, List.append_assoc]; exact HO6.out⟩, HB6.out⟩
end Go.Proofs.YtlgoaohklggcdaaGreatDoor
