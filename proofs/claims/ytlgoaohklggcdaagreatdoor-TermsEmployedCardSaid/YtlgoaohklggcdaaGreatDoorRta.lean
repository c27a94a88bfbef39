/- Merged from: Rt2 Rt3. -/
import Derived.Test.YtlgoaohklggcdaaGreatDoorLta
import Derived.Test.YtlgoaohklggcdaaGreatDoorRv7
import Derived.Test.YtlgoaohklggcdaaGreatDoorTmc
namespace Go.Proofs.YtlgoaohklggcdaaGreatDoor
open Go.RowKit Go.Sort

/-- The document's terms, as cells. -/
def rtC (x : Td) : Array Value := #[.bool x.em, .int .i64 x.sa, .int .i64 x.pa, .int .i64 (x.h 0), .int .i64 (x.h 1), .int .i64 (x.h 2), .int .i64 (x.h 3), .int .i64 (x.h 4), .int .i64 (x.h 5), .int .i64 (x.h 6), .string x.co]
/-- What stays while the document's terms are put together. -/
structure AtJ (w : World) (fb rb tb : Nat) (V : Nat → Value) (t : Td) (W : World) : Prop where
  below : Below w.heap.size w W
  bf : Bk fb 42 #[V 0, V 1, V 2, V 3, V 4] W
  br : Bk rb 52 #[.bool false, .int .i64 0, .int .i64 0, .int .i64 0, .int .i64 0, .int .i64 0, .int .i64 0, .int .i64 0, .int .i64 0, .int .i64 0, .string ⟨#[]⟩] W
  bt : Bk tb 52 (rtC t) W
  far : w.heap.size ≤ rb ∧ w.heap.size ≤ tb ∧ fb ≠ tb ∧ rb ≠ tb
theorem AtJ.bel {w : World} {fb rb tb : Nat} {V : Nat → Value} {t : Td} {W W' : World} (h : AtJ w fb rb tb V t W) (hb : Below W.heap.size W W') : AtJ w fb rb tb V t W' :=
  ⟨h.below.trans (hb.mono h.below.size), bk_bel h.bf hb, bk_bel h.br hb, bk_bel h.bt hb, h.far⟩
theorem AtJ.put {w : World} {fb rb tb : Nat} {V : Nat → Value} {t t' : Td} {W W' : World} (h : AtJ w fb rb tb V t W) (hg : W.grownBy W' (some tb)) (hk : Bk tb 52 (rtC t') W') : AtJ w fb rb tb V t' W' :=
  ⟨h.below.grown hg h.below.size (fun j hj => by cases hj; exact h.far.2.1), h.bf.grownBy hg (by intro e; injection e with e; exact h.far.2.2.1 e), h.br.grownBy hg (by intro e; injection e with e; exact h.far.2.2.2 e), hk, h.far⟩
theorem AtJ.set0 {w : World} {fb rb tb : Nat} {V : Nat → Value} {t : Td} {W : World} (h : AtJ w fb rb tb V t W) (b : Bool) : AtJ w fb rb tb V { t with em := b } (W.setCell ⟨tb, 0, none⟩ (.bool b)) := h.put (gSet _ _ _) (h.bt.set_ 0 (.bool b))
theorem AtJ.set1 {w : World} {fb rb tb : Nat} {V : Nat → Value} {t : Td} {W : World} (h : AtJ w fb rb tb V t W) (b : Int) : AtJ w fb rb tb V { t with sa := b } (W.setCell ⟨tb, 1, none⟩ (.int .i64 b)) := h.put (gSet _ _ _) (h.bt.set_ 1 (.int .i64 b))
theorem AtJ.set2 {w : World} {fb rb tb : Nat} {V : Nat → Value} {t : Td} {W : World} (h : AtJ w fb rb tb V t W) (b : Int) : AtJ w fb rb tb V { t with pa := b } (W.setCell ⟨tb, 2, none⟩ (.int .i64 b)) := h.put (gSet _ _ _) (h.bt.set_ 2 (.int .i64 b))
theorem AtJ.set4 {w : World} {fb rb tb : Nat} {V : Nat → Value} {t : Td} {W : World} (h : AtJ w fb rb tb V t W) (b : ByteArray) : AtJ w fb rb tb V { t with co := b } (W.setCell ⟨tb, 10, none⟩ (.string b)) := h.put (gSet _ _ _) (h.bt.set_ 10 (.string b))
theorem AtJ.set3 {w : World} {fb rb tb : Nat} {V : Nat → Value} {t : Td} {W : World} (h : AtJ w fb rb tb V t W) (f : Nat → Int) : AtJ w fb rb tb V { t with h := f } (((((((W.setCell ⟨tb, 3, none⟩ (.int .i64 (f 0))).setCell ⟨tb, 4, none⟩ (.int .i64 (f 1))).setCell ⟨tb, 5, none⟩ (.int .i64 (f 2))).setCell ⟨tb, 6, none⟩ (.int .i64 (f 3))).setCell ⟨tb, 7, none⟩ (.int .i64 (f 4))).setCell ⟨tb, 8, none⟩ (.int .i64 (f 5))).setCell ⟨tb, 9, none⟩ (.int .i64 (f 6))) := by
  have b0 : Bk tb 52 #[.bool t.em, .int .i64 t.sa, .int .i64 t.pa, .int .i64 (f 0), .int .i64 (t.h 1), .int .i64 (t.h 2), .int .i64 (t.h 3), .int .i64 (t.h 4), .int .i64 (t.h 5), .int .i64 (t.h 6), .string t.co] _ := h.bt.set_ 3 (.int .i64 (f 0))
  have b1 : Bk tb 52 #[.bool t.em, .int .i64 t.sa, .int .i64 t.pa, .int .i64 (f 0), .int .i64 (f 1), .int .i64 (t.h 2), .int .i64 (t.h 3), .int .i64 (t.h 4), .int .i64 (t.h 5), .int .i64 (t.h 6), .string t.co] _ := b0.set_ 4 (.int .i64 (f 1))
  have b2 : Bk tb 52 #[.bool t.em, .int .i64 t.sa, .int .i64 t.pa, .int .i64 (f 0), .int .i64 (f 1), .int .i64 (f 2), .int .i64 (t.h 3), .int .i64 (t.h 4), .int .i64 (t.h 5), .int .i64 (t.h 6), .string t.co] _ := b1.set_ 5 (.int .i64 (f 2))
  have b3 : Bk tb 52 #[.bool t.em, .int .i64 t.sa, .int .i64 t.pa, .int .i64 (f 0), .int .i64 (f 1), .int .i64 (f 2), .int .i64 (f 3), .int .i64 (t.h 4), .int .i64 (t.h 5), .int .i64 (t.h 6), .string t.co] _ := b2.set_ 6 (.int .i64 (f 3))
  have b4 : Bk tb 52 #[.bool t.em, .int .i64 t.sa, .int .i64 t.pa, .int .i64 (f 0), .int .i64 (f 1), .int .i64 (f 2), .int .i64 (f 3), .int .i64 (f 4), .int .i64 (t.h 5), .int .i64 (t.h 6), .string t.co] _ := b3.set_ 7 (.int .i64 (f 4))
  have b5 : Bk tb 52 #[.bool t.em, .int .i64 t.sa, .int .i64 t.pa, .int .i64 (f 0), .int .i64 (f 1), .int .i64 (f 2), .int .i64 (f 3), .int .i64 (f 4), .int .i64 (f 5), .int .i64 (t.h 6), .string t.co] _ := b4.set_ 8 (.int .i64 (f 5))
  have b6 : Bk tb 52 #[.bool t.em, .int .i64 t.sa, .int .i64 t.pa, .int .i64 (f 0), .int .i64 (f 1), .int .i64 (f 2), .int .i64 (f 3), .int .i64 (f 4), .int .i64 (f 5), .int .i64 (f 6), .string t.co] _ := b5.set_ 9 (.int .i64 (f 6))
  exact h.put (grown_trans (grown_trans (grown_trans (grown_trans (grown_trans (grown_trans (grown_trans (World.grownBy.refl W _) (gSet _ _ _)) (gSet _ _ _)) (gSet _ _ _)) (gSet _ _ _)) (gSet _ _ _)) (gSet _ _ _)) (gSet _ _ _)) b6
theorem bk_rt {rb : Nat} {u4 : World} (t5 : Td) (h : Bk rb 52 #[.bool false, .int .i64 0, .int .i64 0, .int .i64 0, .int .i64 0, .int .i64 0, .int .i64 0, .int .i64 0, .int .i64 0, .int .i64 0, .string ⟨#[]⟩] u4) : Bk rb 52 (rtC t5) (((((((((((u4.setCell ⟨rb, 0, none⟩ (.bool t5.em)).setCell ⟨rb, 1, none⟩ (.int .i64 t5.sa)).setCell ⟨rb, 2, none⟩ (.int .i64 t5.pa)).setCell ⟨rb, 3, none⟩ (.int .i64 (t5.h 0))).setCell ⟨rb, 4, none⟩ (.int .i64 (t5.h 1))).setCell ⟨rb, 5, none⟩ (.int .i64 (t5.h 2))).setCell ⟨rb, 6, none⟩ (.int .i64 (t5.h 3))).setCell ⟨rb, 7, none⟩ (.int .i64 (t5.h 4))).setCell ⟨rb, 8, none⟩ (.int .i64 (t5.h 5))).setCell ⟨rb, 9, none⟩ (.int .i64 (t5.h 6))).setCell ⟨rb, 10, none⟩ (.string t5.co)) := by
  have b0 : Bk rb 52 #[.bool t5.em, .int .i64 0, .int .i64 0, .int .i64 0, .int .i64 0, .int .i64 0, .int .i64 0, .int .i64 0, .int .i64 0, .int .i64 0, .string ⟨#[]⟩] _ := h.set_ 0 (.bool t5.em)
  have b1 : Bk rb 52 #[.bool t5.em, .int .i64 t5.sa, .int .i64 0, .int .i64 0, .int .i64 0, .int .i64 0, .int .i64 0, .int .i64 0, .int .i64 0, .int .i64 0, .string ⟨#[]⟩] _ := b0.set_ 1 (.int .i64 t5.sa)
  have b2 : Bk rb 52 #[.bool t5.em, .int .i64 t5.sa, .int .i64 t5.pa, .int .i64 0, .int .i64 0, .int .i64 0, .int .i64 0, .int .i64 0, .int .i64 0, .int .i64 0, .string ⟨#[]⟩] _ := b1.set_ 2 (.int .i64 t5.pa)
  have b3 : Bk rb 52 #[.bool t5.em, .int .i64 t5.sa, .int .i64 t5.pa, .int .i64 (t5.h 0), .int .i64 0, .int .i64 0, .int .i64 0, .int .i64 0, .int .i64 0, .int .i64 0, .string ⟨#[]⟩] _ := b2.set_ 3 (.int .i64 (t5.h 0))
  have b4 : Bk rb 52 #[.bool t5.em, .int .i64 t5.sa, .int .i64 t5.pa, .int .i64 (t5.h 0), .int .i64 (t5.h 1), .int .i64 0, .int .i64 0, .int .i64 0, .int .i64 0, .int .i64 0, .string ⟨#[]⟩] _ := b3.set_ 4 (.int .i64 (t5.h 1))
  have b5 : Bk rb 52 #[.bool t5.em, .int .i64 t5.sa, .int .i64 t5.pa, .int .i64 (t5.h 0), .int .i64 (t5.h 1), .int .i64 (t5.h 2), .int .i64 0, .int .i64 0, .int .i64 0, .int .i64 0, .string ⟨#[]⟩] _ := b4.set_ 5 (.int .i64 (t5.h 2))
  have b6 : Bk rb 52 #[.bool t5.em, .int .i64 t5.sa, .int .i64 t5.pa, .int .i64 (t5.h 0), .int .i64 (t5.h 1), .int .i64 (t5.h 2), .int .i64 (t5.h 3), .int .i64 0, .int .i64 0, .int .i64 0, .string ⟨#[]⟩] _ := b5.set_ 6 (.int .i64 (t5.h 3))
  have b7 : Bk rb 52 #[.bool t5.em, .int .i64 t5.sa, .int .i64 t5.pa, .int .i64 (t5.h 0), .int .i64 (t5.h 1), .int .i64 (t5.h 2), .int .i64 (t5.h 3), .int .i64 (t5.h 4), .int .i64 0, .int .i64 0, .string ⟨#[]⟩] _ := b6.set_ 7 (.int .i64 (t5.h 4))
  have b8 : Bk rb 52 #[.bool t5.em, .int .i64 t5.sa, .int .i64 t5.pa, .int .i64 (t5.h 0), .int .i64 (t5.h 1), .int .i64 (t5.h 2), .int .i64 (t5.h 3), .int .i64 (t5.h 4), .int .i64 (t5.h 5), .int .i64 0, .string ⟨#[]⟩] _ := b7.set_ 8 (.int .i64 (t5.h 5))
  have b9 : Bk rb 52 #[.bool t5.em, .int .i64 t5.sa, .int .i64 t5.pa, .int .i64 (t5.h 0), .int .i64 (t5.h 1), .int .i64 (t5.h 2), .int .i64 (t5.h 3), .int .i64 (t5.h 4), .int .i64 (t5.h 5), .int .i64 (t5.h 6), .string ⟨#[]⟩] _ := b8.set_ 9 (.int .i64 (t5.h 6))
  have b10 : Bk rb 52 #[.bool t5.em, .int .i64 t5.sa, .int .i64 t5.pa, .int .i64 (t5.h 0), .int .i64 (t5.h 1), .int .i64 (t5.h 2), .int .i64 (t5.h 3), .int .i64 (t5.h 4), .int .i64 (t5.h 5), .int .i64 (t5.h 6), .string t5.co] _ := b9.set_ 10 (.string t5.co)
  exact b10
set_option maxHeartbeats 8000000 in
set_option maxRecDepth 100000 in
theorem r16_At (X : Ls) (V : Nat → Value) (d : Int) (w : World) (hX : ∀ i, i < 5 → (X.at_ i).length ≤ 1000000) (hx : ∀ x ∈ X.d, x.2.tx.size ≤ 1000000) (hV : ∀ i, i < 5 → ∃ A c, V i = .slice A (X.at_ i).length c ∧ Sl encR 5 w w.heap.size A (X.at_ i)) :
    Calls Tryz.prog 23 #[.agg #[V 0, V 1, V 2, V 3, V 4], .int .i64 d] w fun e w' => e = .returned (.agg (rtC (onX X d))) ∧ Below w.heap.size w w' := by
  obtain ⟨fb, hfb⟩ : ∃ x, w.heap.size = x := ⟨_, rfl⟩
  obtain ⟨rb, hrb⟩ : ∃ x, fb + 1 = x := ⟨_, rfl⟩
  obtain ⟨tb, htb⟩ : ∃ x, rb + 1 = x := ⟨_, rfl⟩
  obtain ⟨A0, c0, v0, s0⟩ := hV 0 (by omega)
  obtain ⟨Y0, y0⟩ : ∃ Y, X.at_ 0 = Y := ⟨_, rfl⟩
  rw [y0] at v0 s0
  have l0 : Y0.length ≤ 1000000 := by rw [← y0]; exact hX 0 (by omega)
  have HS0 := Lib.hid s0
  have HV0 := Lib.hid v0
  have HY0 := Lib.hid y0
  obtain ⟨A1, c1, v1, s1⟩ := hV 1 (by omega)
  obtain ⟨Y1, y1⟩ : ∃ Y, X.at_ 1 = Y := ⟨_, rfl⟩
  rw [y1] at v1 s1
  have l1 : Y1.length ≤ 1000000 := by rw [← y1]; exact hX 1 (by omega)
  have HS1 := Lib.hid s1
  have HV1 := Lib.hid v1
  have HY1 := Lib.hid y1
  obtain ⟨A2, c2, v2, s2⟩ := hV 2 (by omega)
  obtain ⟨Y2, y2⟩ : ∃ Y, X.at_ 2 = Y := ⟨_, rfl⟩
  rw [y2] at v2 s2
  have l2 : Y2.length ≤ 1000000 := by rw [← y2]; exact hX 2 (by omega)
  have HS2 := Lib.hid s2
  have HV2 := Lib.hid v2
  have HY2 := Lib.hid y2
  obtain ⟨A3, c3, v3, s3⟩ := hV 3 (by omega)
  obtain ⟨Y3, y3⟩ : ∃ Y, X.at_ 3 = Y := ⟨_, rfl⟩
  rw [y3] at v3 s3
  have l3 : Y3.length ≤ 1000000 := by rw [← y3]; exact hX 3 (by omega)
  have HS3 := Lib.hid s3
  have HV3 := Lib.hid v3
  have HY3 := Lib.hid y3
  obtain ⟨A4, c4, v4, s4⟩ := hV 4 (by omega)
  obtain ⟨Y4, y4⟩ : ∃ Y, X.at_ 4 = Y := ⟨_, rfl⟩
  rw [y4] at v4 s4
  have l4 : Y4.length ≤ 1000000 := by rw [← y4]; exact hX 4 (by omega)
  have HS4 := Lib.hid s4
  have HV4 := Lib.hid v4
  have HY4 := Lib.hid y4
  obtain ⟨w2, hw2⟩ : ∃ x, ((w.alloc (.cells #[V 0, V 1, V 2, V 3, V 4] 42)).alloc (.cells #[.bool false, .int .i64 0, .int .i64 0, .int .i64 0, .int .i64 0, .int .i64 0, .int .i64 0, .int .i64 0, .int .i64 0, .int .i64 0, .string ⟨#[]⟩] 52)).alloc (.cells #[.bool false, .int .i64 0, .int .i64 1000000, .int .i64 480, .int .i64 480, .int .i64 480, .int .i64 480, .int .i64 480, .int .i64 0, .int .i64 0, .string ⟨#[102, 105, 114, 109, 58, 49]⟩] 52) = x := ⟨_, rfl⟩
  have HJ0 : Hid (AtJ w fb rb tb V t0T w2) := Lib.hid (by
    have s1 : (w.alloc (.cells #[V 0, V 1, V 2, V 3, V 4] 42)).heap.size = rb := by simp; omega
    have s2 : ((w.alloc (.cells #[V 0, V 1, V 2, V 3, V 4] 42)).alloc (.cells #[.bool false, .int .i64 0, .int .i64 0, .int .i64 0, .int .i64 0, .int .i64 0, .int .i64 0, .int .i64 0, .int .i64 0, .int .i64 0, .string ⟨#[]⟩] 52)).heap.size = tb := by simp; omega
    have b1 := Bk.new w 42 #[V 0, V 1, V 2, V 3, V 4]
    have b2 := Bk.new (w.alloc (.cells #[V 0, V 1, V 2, V 3, V 4] 42)) 52 #[.bool false, .int .i64 0, .int .i64 0, .int .i64 0, .int .i64 0, .int .i64 0, .int .i64 0, .int .i64 0, .int .i64 0, .int .i64 0, .string ⟨#[]⟩]
    have b3 := Bk.new ((w.alloc (.cells #[V 0, V 1, V 2, V 3, V 4] 42)).alloc (.cells #[.bool false, .int .i64 0, .int .i64 0, .int .i64 0, .int .i64 0, .int .i64 0, .int .i64 0, .int .i64 0, .int .i64 0, .int .i64 0, .string ⟨#[]⟩] 52)) 52 #[.bool false, .int .i64 0, .int .i64 1000000, .int .i64 480, .int .i64 480, .int .i64 480, .int .i64 480, .int .i64 480, .int .i64 0, .int .i64 0, .string ⟨#[102, 105, 114, 109, 58, 49]⟩]
    rw [hfb] at b1
    rw [s1] at b2
    rw [s2, hw2] at b3
    refine ⟨?_, ?_, ?_, b3, by omega⟩
    · rw [← hw2]; exact (((Grows.of_alloc _ _).alloc _).alloc _).below
    · rw [← hw2]; exact b1.grows ((Grows.of_alloc _ _).alloc _)
    · rw [← hw2]; exact b2.grows (Grows.of_alloc _ _))
  have HX3 : Hid (∀ x ∈ Y3, x.2.tx.size ≤ 1000000) := Lib.hid fun x h => hx x (by rw [← y3] at h; exact h)
  obtain ⟨tf, htf⟩ : ∃ z, onX X d = z := ⟨_, rfl⟩
  have HON : Hid (setT X d 4 (setT X d 3 (setT X d 2 (setT X d 1 (setT X d 0 t0T)))) = tf) := Lib.hid ((setT_on X d).trans htf)
  rw [htf]
  have HE := Lib.hid (And.intro hfb (And.intro hrb (And.intro htb hw2)))
  rw [v0, v1, v2, v3, v4]
  rw [v0, v1, v2, v3, v4] at HE
  clear hfb hrb htb hw2 htf hV hX hx v0 v1 v2 v3 v4 y0 y1 y2 y3 y4 s0 s1 s2 s3 s4
  go_enter Tryz.func23, Tryz.ntmps23
  go_upto_region 2 with fail
  rw [HE.out.1, HE.out.2.1, HE.out.2.2.1, HE.out.2.2.2]
  clear HE
  have C0 : w2.cell? ⟨fb, 0, none⟩ = some (.slice A0 Y0.length c0) := by rw [← HV0.out]; exact HJ0.out.bf.cell 0
  obtain ⟨q, hq⟩ : ∃ z, plc Y0 d Y0.length = z := ⟨_, rfl⟩
  have HAT : Hid (Calls Tryz.prog 60 #[.slice A0 Y0.length c0, .int .i64 d] w2 fun e w' => e = .returned (.int .i64 q) ∧ Below w2.heap.size w2 w') := Lib.hid (by rw [← hq]; exact r10_At Y0 d A0 c0 w2 l0 (sl_bel HS0.out HJ0.out.below))
  have hqb : q = -1 ∨ ∃ j : Nat, q = j ∧ j < Y0.length := by
    rw [← hq]
    rcases plc_bd Y0 d Y0.length with h | ⟨j, h1, _, h3⟩
    · exact .inl h
    · exact .inr ⟨j, h1, h3⟩
  have HQ : Hid (q_ (X.at_ 0) d = q) := Lib.hid (by rw [HY0.out]; exact hq)
  clear hq
  go_wp2_with fail
  refine HAT.out.mono ?_
  rintro e z0 ⟨rfl, hb⟩
  have HK := Lib.hid (HJ0.out.bel hb)
  clear hb HAT C0 HJ0
  obtain ⟨tn, htn⟩ : ∃ z, setT X d 0 t0T = z := ⟨_, rfl⟩
  have HTN := Lib.hid htn
  clear htn
  go_upto_if 18 with fail
  go_cut [] from 18 to 26 (fun wx => Hid (AtJ w fb rb tb V tn wx))
  case first =>
    rcases hqb with rfl | ⟨j, rfl, hj⟩
    · have HF : Hid (tn = t0T) := Lib.hid (by rw [← HTN.out]; unfold setT selT; rw [HQ.out]; exact if_neg (by omega))
      go_wp2
      go_meet
      exact Lib.hid (by rw [HF.out]; exact HK.out)
    · obtain ⟨x, hx⟩ : ∃ x, Y0[j]? = some x := ⟨_, List.getElem?_eq_getElem hj⟩
      have HF : Hid (tn = updT 0 (x.1, x.2.nu, x.2.tx) t0T) := Lib.hid (by
        rw [← HTN.out]
        unfold setT selT
        rw [HQ.out, if_pos (by omega), HY0.out, valL_at hx])
      obtain ⟨b, off, hA, hbl, hat⟩ := HS0.out (by intro h; simp [h] at hj)
      have G3 := bCell HK.out.below (hat j x hx 3 _ rfl)
      have C0 : z0.cell? ⟨fb, 0, none⟩ = some (.slice (some ⟨b, off, none⟩) Y0.length c0) := by rw [← hA, ← HV0.out]; exact HK.out.bf.cell 0
      have hj2 : (j : Int) < (Y0.length : Int) := by omega
      have hj3 : (0 : Int) ≤ (j : Int) := by omega
      obtain ⟨tp, htp⟩ : ∃ z, t0T = z := ⟨_, rfl⟩
      rw [htp] at HF HK
      have K0 : z0.cell? ⟨tb, 0, none⟩ = some (.bool tp.em) := HK.out.bt.cell 0
      have K1 : z0.frozen? ⟨tb, 0, none⟩ = false := HK.out.bt.frozen 0
      have HFIN : Hid (AtJ w fb rb tb V tn (z0.setCell ⟨tb, 0, none⟩ (.bool (x.2.nu == 1)))) := Lib.hid (by rw [HF.out]; exact HK.out.set0 (x.2.nu == 1))
      clear hat hx hA HK HF htp HTN HQ
      go_wp2
      go_meet
      exact HFIN
  case rest =>
  have HJ1 := hcut
  obtain ⟨u0, rfl⟩ : ∃ x : World, x = wc := ⟨_, rfl⟩
  have HT0 := HTN
  clear hcut HTN HQ hqb HK
  obtain ⟨t1, rfl⟩ : ∃ z, z = tn := ⟨_, rfl⟩
  have C0 : u0.cell? ⟨fb, 1, none⟩ = some (.slice A1 Y1.length c1) := by rw [← HV1.out]; exact HJ1.out.bf.cell 1
  obtain ⟨q, hq⟩ : ∃ z, plc Y1 d Y1.length = z := ⟨_, rfl⟩
  have HAT : Hid (Calls Tryz.prog 60 #[.slice A1 Y1.length c1, .int .i64 d] u0 fun e w' => e = .returned (.int .i64 q) ∧ Below u0.heap.size u0 w') := Lib.hid (by rw [← hq]; exact r10_At Y1 d A1 c1 u0 l1 (sl_bel HS1.out HJ1.out.below))
  have hqb : q = -1 ∨ ∃ j : Nat, q = j ∧ j < Y1.length := by
    rw [← hq]
    rcases plc_bd Y1 d Y1.length with h | ⟨j, h1, _, h3⟩
    · exact .inl h
    · exact .inr ⟨j, h1, h3⟩
  have HQ : Hid (q_ (X.at_ 1) d = q) := Lib.hid (by rw [HY1.out]; exact hq)
  clear hq
  go_wp2_with fail
  refine HAT.out.mono ?_
  rintro e z1 ⟨rfl, hb⟩
  have HK := Lib.hid (HJ1.out.bel hb)
  clear hb HAT C0 HJ1
  obtain ⟨tn, htn⟩ : ∃ z, setT X d 1 t1 = z := ⟨_, rfl⟩
  have HTN := Lib.hid htn
  clear htn
  go_upto_if 32 with fail
  go_cut [] from 32 to 39 (fun wx => Hid (AtJ w fb rb tb V tn wx))
  case first =>
    rcases hqb with rfl | ⟨j, rfl, hj⟩
    · have HF : Hid (tn = t1) := Lib.hid (by rw [← HTN.out]; unfold setT selT; rw [HQ.out]; exact if_neg (by omega))
      go_wp2
      go_meet
      exact Lib.hid (by rw [HF.out]; exact HK.out)
    · obtain ⟨x, hx⟩ : ∃ x, Y1[j]? = some x := ⟨_, List.getElem?_eq_getElem hj⟩
      have HF : Hid (tn = updT 1 (x.1, x.2.nu, x.2.tx) t1) := Lib.hid (by
        rw [← HTN.out]
        unfold setT selT
        rw [HQ.out, if_pos (by omega), HY1.out, valL_at hx])
      obtain ⟨b, off, hA, hbl, hat⟩ := HS1.out (by intro h; simp [h] at hj)
      have G3 := bCell HK.out.below (hat j x hx 3 _ rfl)
      have C0 : z1.cell? ⟨fb, 1, none⟩ = some (.slice (some ⟨b, off, none⟩) Y1.length c1) := by rw [← hA, ← HV1.out]; exact HK.out.bf.cell 1
      have hj2 : (j : Int) < (Y1.length : Int) := by omega
      have hj3 : (0 : Int) ≤ (j : Int) := by omega
      obtain ⟨tp, htp⟩ : ∃ z, t1 = z := ⟨_, rfl⟩
      rw [htp] at HF HK
      have K0 : z1.cell? ⟨tb, 1, none⟩ = some (.int .i64 tp.sa) := HK.out.bt.cell 1
      have K1 : z1.frozen? ⟨tb, 1, none⟩ = false := HK.out.bt.frozen 1
      have HFIN : Hid (AtJ w fb rb tb V tn (z1.setCell ⟨tb, 1, none⟩ (.int .i64 x.2.nu))) := Lib.hid (by rw [HF.out]; exact HK.out.set1 x.2.nu)
      clear hat hx hA HK HF htp HTN HQ
      go_wp2
      go_meet
      exact HFIN
  case rest =>
  have HJ2 := hcut
  obtain ⟨u1, rfl⟩ : ∃ x : World, x = wc := ⟨_, rfl⟩
  have HT1 := HTN
  clear hcut HTN HQ hqb HK
  obtain ⟨t2, rfl⟩ : ∃ z, z = tn := ⟨_, rfl⟩
  have C0 : u1.cell? ⟨fb, 2, none⟩ = some (.slice A2 Y2.length c2) := by rw [← HV2.out]; exact HJ2.out.bf.cell 2
  obtain ⟨q, hq⟩ : ∃ z, plc Y2 d Y2.length = z := ⟨_, rfl⟩
  have HAT : Hid (Calls Tryz.prog 60 #[.slice A2 Y2.length c2, .int .i64 d] u1 fun e w' => e = .returned (.int .i64 q) ∧ Below u1.heap.size u1 w') := Lib.hid (by rw [← hq]; exact r10_At Y2 d A2 c2 u1 l2 (sl_bel HS2.out HJ2.out.below))
  have hqb : q = -1 ∨ ∃ j : Nat, q = j ∧ j < Y2.length := by
    rw [← hq]
    rcases plc_bd Y2 d Y2.length with h | ⟨j, h1, _, h3⟩
    · exact .inl h
    · exact .inr ⟨j, h1, h3⟩
  have HQ : Hid (q_ (X.at_ 2) d = q) := Lib.hid (by rw [HY2.out]; exact hq)
  clear hq
  go_wp2_with fail
  refine HAT.out.mono ?_
  rintro e z2 ⟨rfl, hb⟩
  have HK := Lib.hid (HJ2.out.bel hb)
  clear hb HAT C0 HJ2
  obtain ⟨tn, htn⟩ : ∃ z, setT X d 2 t2 = z := ⟨_, rfl⟩
  have HTN := Lib.hid htn
  clear htn
  go_upto_if 45 with fail
  go_cut [] from 45 to 52 (fun wx => Hid (AtJ w fb rb tb V tn wx))
  case first =>
    rcases hqb with rfl | ⟨j, rfl, hj⟩
    · have HF : Hid (tn = t2) := Lib.hid (by rw [← HTN.out]; unfold setT selT; rw [HQ.out]; exact if_neg (by omega))
      go_wp2
      go_meet
      exact Lib.hid (by rw [HF.out]; exact HK.out)
    · obtain ⟨x, hx⟩ : ∃ x, Y2[j]? = some x := ⟨_, List.getElem?_eq_getElem hj⟩
      have HF : Hid (tn = updT 2 (x.1, x.2.nu, x.2.tx) t2) := Lib.hid (by
        rw [← HTN.out]
        unfold setT selT
        rw [HQ.out, if_pos (by omega), HY2.out, valL_at hx])
      obtain ⟨b, off, hA, hbl, hat⟩ := HS2.out (by intro h; simp [h] at hj)
      have G3 := bCell HK.out.below (hat j x hx 3 _ rfl)
      have C0 : z2.cell? ⟨fb, 2, none⟩ = some (.slice (some ⟨b, off, none⟩) Y2.length c2) := by rw [← hA, ← HV2.out]; exact HK.out.bf.cell 2
      have hj2 : (j : Int) < (Y2.length : Int) := by omega
      have hj3 : (0 : Int) ≤ (j : Int) := by omega
      obtain ⟨tp, htp⟩ : ∃ z, t2 = z := ⟨_, rfl⟩
      rw [htp] at HF HK
      have K0 : z2.cell? ⟨tb, 2, none⟩ = some (.int .i64 tp.pa) := HK.out.bt.cell 2
      have K1 : z2.frozen? ⟨tb, 2, none⟩ = false := HK.out.bt.frozen 2
      have HFIN : Hid (AtJ w fb rb tb V tn (z2.setCell ⟨tb, 2, none⟩ (.int .i64 x.2.nu))) := Lib.hid (by rw [HF.out]; exact HK.out.set2 x.2.nu)
      clear hat hx hA HK HF htp HTN HQ
      go_wp2
      go_meet
      exact HFIN
  case rest =>
  have HJ3 := hcut
  obtain ⟨u2, rfl⟩ : ∃ x : World, x = wc := ⟨_, rfl⟩
  have HT2 := HTN
  clear hcut HTN HQ hqb HK
  obtain ⟨t3, rfl⟩ : ∃ z, z = tn := ⟨_, rfl⟩
  have C0 : u2.cell? ⟨fb, 3, none⟩ = some (.slice A3 Y3.length c3) := by rw [← HV3.out]; exact HJ3.out.bf.cell 3
  obtain ⟨q, hq⟩ : ∃ z, plc Y3 d Y3.length = z := ⟨_, rfl⟩
  have HAT : Hid (Calls Tryz.prog 60 #[.slice A3 Y3.length c3, .int .i64 d] u2 fun e w' => e = .returned (.int .i64 q) ∧ Below u2.heap.size u2 w') := Lib.hid (by rw [← hq]; exact r10_At Y3 d A3 c3 u2 l3 (sl_bel HS3.out HJ3.out.below))
  have hqb : q = -1 ∨ ∃ j : Nat, q = j ∧ j < Y3.length := by
    rw [← hq]
    rcases plc_bd Y3 d Y3.length with h | ⟨j, h1, _, h3⟩
    · exact .inl h
    · exact .inr ⟨j, h1, h3⟩
  have HQ : Hid (q_ (X.at_ 3) d = q) := Lib.hid (by rw [HY3.out]; exact hq)
  clear hq
  go_wp2_with fail
  refine HAT.out.mono ?_
  rintro e z3 ⟨rfl, hb⟩
  have HK := Lib.hid (HJ3.out.bel hb)
  clear hb HAT C0 HJ3
  obtain ⟨tn, htn⟩ : ∃ z, setT X d 3 t3 = z := ⟨_, rfl⟩
  have HTN := Lib.hid htn
  clear htn
  go_upto_if 58 with fail
  go_cut [] from 58 to 69 (fun wx => Hid (AtJ w fb rb tb V tn wx))
  case first =>
    rcases hqb with rfl | ⟨j, rfl, hj⟩
    · have HF : Hid (tn = t3) := Lib.hid (by rw [← HTN.out]; unfold setT selT; rw [HQ.out]; exact if_neg (by omega))
      go_wp2
      go_meet
      exact Lib.hid (by rw [HF.out]; exact HK.out)
    · obtain ⟨x, hx⟩ : ∃ x, Y3[j]? = some x := ⟨_, List.getElem?_eq_getElem hj⟩
      have HF : Hid (tn = updT 3 (x.1, x.2.nu, x.2.tx) t3) := Lib.hid (by
        rw [← HTN.out]
        unfold setT selT
        rw [HQ.out, if_pos (by omega), HY3.out, valL_at hx])
      obtain ⟨b, off, hA, hbl, hat⟩ := HS3.out (by intro h; simp [h] at hj)
      have G4 := bCell HK.out.below (hat j x hx 4 _ rfl)
      have C0 : z3.cell? ⟨fb, 3, none⟩ = some (.slice (some ⟨b, off, none⟩) Y3.length c3) := by rw [← hA, ← HV3.out]; exact HK.out.bf.cell 3
      have hj2 : (j : Int) < (Y3.length : Int) := by omega
      have hj3 : (0 : Int) ≤ (j : Int) := by omega
      obtain ⟨tp, htp⟩ : ∃ z, t3 = z := ⟨_, rfl⟩
      rw [htp] at HF HK
      have HP := Lib.hid (r7_Parse x.2.tx z3 (HX3.out x (List.mem_of_getElem? hx)))
      unfold wkR7 weekR w7 at HP
      obtain ⟨f, hf⟩ : ∃ f : Nat → Int, (fun i => (weekV (ls x.2.tx)).getD i 0) = f := ⟨_, rfl⟩
      have hfi : ∀ i, (weekV (ls x.2.tx)).getD i 0 = f i := fun i => by rw [← hf]
      have HF2 : Hid (tn = { tp with h := f }) := Lib.hid (by rw [HF.out, ← hf]; rfl)
      simp only [hfi] at HP
      clear hat hx hA hf hfi htp HTN HQ HF
      go_wp2_with fail
      refine HP.out.mono ?_
      rintro e z9 ⟨rfl, hb9⟩
      have HK9 := Lib.hid (HK.out.bel hb9)
      clear hb9 HP HK G4 C0
      have K0 : z9.cell? ⟨tb, 3, none⟩ = some (.int .i64 (tp.h 0)) := HK9.out.bt.cell 3
      have L0 : z9.frozen? ⟨tb, 3, none⟩ = false := HK9.out.bt.frozen 3
      have K1 : z9.cell? ⟨tb, 4, none⟩ = some (.int .i64 (tp.h 1)) := HK9.out.bt.cell 4
      have L1 : z9.frozen? ⟨tb, 4, none⟩ = false := HK9.out.bt.frozen 4
      have K2 : z9.cell? ⟨tb, 5, none⟩ = some (.int .i64 (tp.h 2)) := HK9.out.bt.cell 5
      have L2 : z9.frozen? ⟨tb, 5, none⟩ = false := HK9.out.bt.frozen 5
      have K3 : z9.cell? ⟨tb, 6, none⟩ = some (.int .i64 (tp.h 3)) := HK9.out.bt.cell 6
      have L3 : z9.frozen? ⟨tb, 6, none⟩ = false := HK9.out.bt.frozen 6
      have K4 : z9.cell? ⟨tb, 7, none⟩ = some (.int .i64 (tp.h 4)) := HK9.out.bt.cell 7
      have L4 : z9.frozen? ⟨tb, 7, none⟩ = false := HK9.out.bt.frozen 7
      have K5 : z9.cell? ⟨tb, 8, none⟩ = some (.int .i64 (tp.h 5)) := HK9.out.bt.cell 8
      have L5 : z9.frozen? ⟨tb, 8, none⟩ = false := HK9.out.bt.frozen 8
      have K6 : z9.cell? ⟨tb, 9, none⟩ = some (.int .i64 (tp.h 6)) := HK9.out.bt.cell 9
      have L6 : z9.frozen? ⟨tb, 9, none⟩ = false := HK9.out.bt.frozen 9
      have HFIN : Hid (AtJ w fb rb tb V tn (((((((z9.setCell ⟨tb, 3, none⟩ (.int .i64 (f 0))).setCell ⟨tb, 4, none⟩ (.int .i64 (f 1))).setCell ⟨tb, 5, none⟩ (.int .i64 (f 2))).setCell ⟨tb, 6, none⟩ (.int .i64 (f 3))).setCell ⟨tb, 7, none⟩ (.int .i64 (f 4))).setCell ⟨tb, 8, none⟩ (.int .i64 (f 5))).setCell ⟨tb, 9, none⟩ (.int .i64 (f 6)))) := Lib.hid (by rw [HF2.out]; exact HK9.out.set3 f)
      clear HK9
      go_wp2
      go_meet
      exact HFIN
  case rest =>
  have HJ4 := hcut
  obtain ⟨u3, rfl⟩ : ∃ x : World, x = wc := ⟨_, rfl⟩
  have HT3 := HTN
  clear hcut HTN HQ hqb HK
  obtain ⟨t4, rfl⟩ : ∃ z, z = tn := ⟨_, rfl⟩
  have C0 : u3.cell? ⟨fb, 4, none⟩ = some (.slice A4 Y4.length c4) := by rw [← HV4.out]; exact HJ4.out.bf.cell 4
  obtain ⟨q, hq⟩ : ∃ z, plc Y4 d Y4.length = z := ⟨_, rfl⟩
  have HAT : Hid (Calls Tryz.prog 60 #[.slice A4 Y4.length c4, .int .i64 d] u3 fun e w' => e = .returned (.int .i64 q) ∧ Below u3.heap.size u3 w') := Lib.hid (by rw [← hq]; exact r10_At Y4 d A4 c4 u3 l4 (sl_bel HS4.out HJ4.out.below))
  have hqb : q = -1 ∨ ∃ j : Nat, q = j ∧ j < Y4.length := by
    rw [← hq]
    rcases plc_bd Y4 d Y4.length with h | ⟨j, h1, _, h3⟩
    · exact .inl h
    · exact .inr ⟨j, h1, h3⟩
  have HQ : Hid (q_ (X.at_ 4) d = q) := Lib.hid (by rw [HY4.out]; exact hq)
  clear hq
  go_wp2_with fail
  refine HAT.out.mono ?_
  rintro e z4 ⟨rfl, hb⟩
  have HK := Lib.hid (HJ4.out.bel hb)
  clear hb HAT C0 HJ4
  obtain ⟨tn, htn⟩ : ∃ z, setT X d 4 t4 = z := ⟨_, rfl⟩
  have HTN := Lib.hid htn
  clear htn
  go_upto_if 75 with fail
  go_cut [] from 75 to 82 (fun wx => Hid (AtJ w fb rb tb V tn wx))
  case first =>
    rcases hqb with rfl | ⟨j, rfl, hj⟩
    · have HF : Hid (tn = t4) := Lib.hid (by rw [← HTN.out]; unfold setT selT; rw [HQ.out]; exact if_neg (by omega))
      go_wp2
      go_meet
      exact Lib.hid (by rw [HF.out]; exact HK.out)
    · obtain ⟨x, hx⟩ : ∃ x, Y4[j]? = some x := ⟨_, List.getElem?_eq_getElem hj⟩
      have HF : Hid (tn = updT 4 (x.1, x.2.nu, x.2.tx) t4) := Lib.hid (by
        rw [← HTN.out]
        unfold setT selT
        rw [HQ.out, if_pos (by omega), HY4.out, valL_at hx])
      obtain ⟨b, off, hA, hbl, hat⟩ := HS4.out (by intro h; simp [h] at hj)
      have G4 := bCell HK.out.below (hat j x hx 4 _ rfl)
      have C0 : z4.cell? ⟨fb, 4, none⟩ = some (.slice (some ⟨b, off, none⟩) Y4.length c4) := by rw [← hA, ← HV4.out]; exact HK.out.bf.cell 4
      have hj2 : (j : Int) < (Y4.length : Int) := by omega
      have hj3 : (0 : Int) ≤ (j : Int) := by omega
      obtain ⟨tp, htp⟩ : ∃ z, t4 = z := ⟨_, rfl⟩
      rw [htp] at HF HK
      have K0 : z4.cell? ⟨tb, 10, none⟩ = some (.string tp.co) := HK.out.bt.cell 10
      have K1 : z4.frozen? ⟨tb, 10, none⟩ = false := HK.out.bt.frozen 10
      have HFIN : Hid (AtJ w fb rb tb V tn (z4.setCell ⟨tb, 10, none⟩ (.string x.2.tx))) := Lib.hid (by rw [HF.out]; exact HK.out.set4 x.2.tx)
      clear hat hx hA HK HF htp HTN HQ
      go_wp2
      go_meet
      exact HFIN
  case rest =>
  have HJ5 := hcut
  obtain ⟨u4, rfl⟩ : ∃ x : World, x = wc := ⟨_, rfl⟩
  have HT4 := HTN
  clear hcut HTN HQ hqb HK
  obtain ⟨t5, rfl⟩ : ∃ z, z = tn := ⟨_, rfl⟩
  obtain rfl : t5 = tf := by rw [← HON.out, HT0.out, HT1.out, HT2.out, HT3.out, HT4.out]
  have K0 : u4.cell? ⟨tb, 0, none⟩ = some (.bool t5.em) := HJ5.out.bt.cell 0
  have R0 : u4.cell? ⟨rb, 0, none⟩ = some (.bool false) := HJ5.out.br.cell 0
  have F0 : u4.frozen? ⟨rb, 0, none⟩ = false := HJ5.out.br.frozen 0
  have K1 : u4.cell? ⟨tb, 1, none⟩ = some (.int .i64 t5.sa) := HJ5.out.bt.cell 1
  have R1 : u4.cell? ⟨rb, 1, none⟩ = some (.int .i64 0) := HJ5.out.br.cell 1
  have F1 : u4.frozen? ⟨rb, 1, none⟩ = false := HJ5.out.br.frozen 1
  have K2 : u4.cell? ⟨tb, 2, none⟩ = some (.int .i64 t5.pa) := HJ5.out.bt.cell 2
  have R2 : u4.cell? ⟨rb, 2, none⟩ = some (.int .i64 0) := HJ5.out.br.cell 2
  have F2 : u4.frozen? ⟨rb, 2, none⟩ = false := HJ5.out.br.frozen 2
  have K3 : u4.cell? ⟨tb, 3, none⟩ = some (.int .i64 (t5.h 0)) := HJ5.out.bt.cell 3
  have R3 : u4.cell? ⟨rb, 3, none⟩ = some (.int .i64 0) := HJ5.out.br.cell 3
  have F3 : u4.frozen? ⟨rb, 3, none⟩ = false := HJ5.out.br.frozen 3
  have K4 : u4.cell? ⟨tb, 4, none⟩ = some (.int .i64 (t5.h 1)) := HJ5.out.bt.cell 4
  have R4 : u4.cell? ⟨rb, 4, none⟩ = some (.int .i64 0) := HJ5.out.br.cell 4
  have F4 : u4.frozen? ⟨rb, 4, none⟩ = false := HJ5.out.br.frozen 4
  have K5 : u4.cell? ⟨tb, 5, none⟩ = some (.int .i64 (t5.h 2)) := HJ5.out.bt.cell 5
  have R5 : u4.cell? ⟨rb, 5, none⟩ = some (.int .i64 0) := HJ5.out.br.cell 5
  have F5 : u4.frozen? ⟨rb, 5, none⟩ = false := HJ5.out.br.frozen 5
  have K6 : u4.cell? ⟨tb, 6, none⟩ = some (.int .i64 (t5.h 3)) := HJ5.out.bt.cell 6
  have R6 : u4.cell? ⟨rb, 6, none⟩ = some (.int .i64 0) := HJ5.out.br.cell 6
  have F6 : u4.frozen? ⟨rb, 6, none⟩ = false := HJ5.out.br.frozen 6
  have K7 : u4.cell? ⟨tb, 7, none⟩ = some (.int .i64 (t5.h 4)) := HJ5.out.bt.cell 7
  have R7 : u4.cell? ⟨rb, 7, none⟩ = some (.int .i64 0) := HJ5.out.br.cell 7
  have F7 : u4.frozen? ⟨rb, 7, none⟩ = false := HJ5.out.br.frozen 7
  have K8 : u4.cell? ⟨tb, 8, none⟩ = some (.int .i64 (t5.h 5)) := HJ5.out.bt.cell 8
  have R8 : u4.cell? ⟨rb, 8, none⟩ = some (.int .i64 0) := HJ5.out.br.cell 8
  have F8 : u4.frozen? ⟨rb, 8, none⟩ = false := HJ5.out.br.frozen 8
  have K9 : u4.cell? ⟨tb, 9, none⟩ = some (.int .i64 (t5.h 6)) := HJ5.out.bt.cell 9
  have R9 : u4.cell? ⟨rb, 9, none⟩ = some (.int .i64 0) := HJ5.out.br.cell 9
  have F9 : u4.frozen? ⟨rb, 9, none⟩ = false := HJ5.out.br.frozen 9
  have K10 : u4.cell? ⟨tb, 10, none⟩ = some (.string t5.co) := HJ5.out.bt.cell 10
  have R10 : u4.cell? ⟨rb, 10, none⟩ = some (.string ⟨#[]⟩) := HJ5.out.br.cell 10
  have F10 : u4.frozen? ⟨rb, 10, none⟩ = false := HJ5.out.br.frozen 10
  have HFIN : Hid (Bk rb 52 (rtC t5) (((((((((((u4.setCell ⟨rb, 0, none⟩ (.bool t5.em)).setCell ⟨rb, 1, none⟩ (.int .i64 t5.sa)).setCell ⟨rb, 2, none⟩ (.int .i64 t5.pa)).setCell ⟨rb, 3, none⟩ (.int .i64 (t5.h 0))).setCell ⟨rb, 4, none⟩ (.int .i64 (t5.h 1))).setCell ⟨rb, 5, none⟩ (.int .i64 (t5.h 2))).setCell ⟨rb, 6, none⟩ (.int .i64 (t5.h 3))).setCell ⟨rb, 7, none⟩ (.int .i64 (t5.h 4))).setCell ⟨rb, 8, none⟩ (.int .i64 (t5.h 5))).setCell ⟨rb, 9, none⟩ (.int .i64 (t5.h 6))).setCell ⟨rb, 10, none⟩ (.string t5.co)) ∧ Below w.heap.size w (((((((((((u4.setCell ⟨rb, 0, none⟩ (.bool t5.em)).setCell ⟨rb, 1, none⟩ (.int .i64 t5.sa)).setCell ⟨rb, 2, none⟩ (.int .i64 t5.pa)).setCell ⟨rb, 3, none⟩ (.int .i64 (t5.h 0))).setCell ⟨rb, 4, none⟩ (.int .i64 (t5.h 1))).setCell ⟨rb, 5, none⟩ (.int .i64 (t5.h 2))).setCell ⟨rb, 6, none⟩ (.int .i64 (t5.h 3))).setCell ⟨rb, 7, none⟩ (.int .i64 (t5.h 4))).setCell ⟨rb, 8, none⟩ (.int .i64 (t5.h 5))).setCell ⟨rb, 9, none⟩ (.int .i64 (t5.h 6))).setCell ⟨rb, 10, none⟩ (.string t5.co))) := Lib.hid (by
    have hr := HJ5.out.far.1
    exact ⟨bk_rt t5 HJ5.out.br, (((((((((((HJ5.out.below.setCell (p := ⟨rb, 0, none⟩) hr (.bool t5.em)).setCell (p := ⟨rb, 1, none⟩) hr (.int .i64 t5.sa)).setCell (p := ⟨rb, 2, none⟩) hr (.int .i64 t5.pa)).setCell (p := ⟨rb, 3, none⟩) hr (.int .i64 (t5.h 0))).setCell (p := ⟨rb, 4, none⟩) hr (.int .i64 (t5.h 1))).setCell (p := ⟨rb, 5, none⟩) hr (.int .i64 (t5.h 2))).setCell (p := ⟨rb, 6, none⟩) hr (.int .i64 (t5.h 3))).setCell (p := ⟨rb, 7, none⟩) hr (.int .i64 (t5.h 4))).setCell (p := ⟨rb, 8, none⟩) hr (.int .i64 (t5.h 5))).setCell (p := ⟨rb, 9, none⟩) hr (.int .i64 (t5.h 6))).setCell (p := ⟨rb, 10, none⟩) hr (.string t5.co))⟩)
  clear HJ5 HT0 HT1 HT2 HT3 HT4 HON
  go_wp2
  obtain ⟨hz, hzb⟩ := HFIN.out
  have z0 := hz.cell 0
  have z1 := hz.cell 1
  have z2 := hz.cell 2
  have z3 := hz.cell 3
  have z4 := hz.cell 4
  have z5 := hz.cell 5
  have z6 := hz.cell 6
  have z7 := hz.cell 7
  have z8 := hz.cell 8
  have z9 := hz.cell 9
  have z10 := hz.cell 10
  simp only [rtC] at z0 z1 z2 z3 z4 z5 z6 z7 z8 z9 z10
  exact bodyPost_ret (v := .agg (rtC t5)) (by simp [results, Tryz.results23, go_sem, rtC, z0, z1, z2, z3, z4, z5, z6, z7, z8, z9, z10]) rfl ⟨rfl, hzb⟩
end Go.Proofs.YtlgoaohklggcdaaGreatDoor

namespace Go.Proofs.YtlgoaohklggcdaaGreatDoor
open Go.RowKit Go.Sort

abbrev OwnP (X : Ls) (B : Nat) (v : Value) (l : List Spn) (w : World) : Prop := Own (encO X) 13 54 B v l w
theorem pieceRInfo : (Tryz.prog.info? 54).map (fun i => (i.zero, i.size, i.bytes)) = some (some (.agg #[.int .i64 0, .int .i64 0, .bool false, .int .i64 0, .int .i64 0, .int .i64 0, .int .i64 0, .int .i64 0, .int .i64 0, .int .i64 0, .int .i64 0, .int .i64 0, .string ⟨#[]⟩]), 13, 112) := by kernel_rfl
set_option maxHeartbeats 4000000 in
set_option maxRecDepth 100000 in
theorem eqW7 (f g : Nat → Int) (w : World) : (Op.equalIn 9999 47 (.agg #[.int .i64 (f 0), .int .i64 (f 1), .int .i64 (f 2), .int .i64 (f 3), .int .i64 (f 4), .int .i64 (f 5), .int .i64 (f 6)]) (.agg #[.int .i64 (g 0), .int .i64 (g 1), .int .i64 (g 2), .int .i64 (g 3), .int .i64 (g 4), .int .i64 (g 5), .int .i64 (g 6)])).run Tryz.prog w = .ok (eq7 f g) w := by
  have u3 := Tryz.underlying3
  have a3 := Tryz.isAgg3
  have z3 := Tryz.sizeOf3
  rw [show (9999 : Nat) = 9998 + 1 from rfl, Op.equalIn]
  simp only [Sem.run_bind, run_underlying Tryz.underlying47, Result.andThen_ok]
  simp only [Std.Legacy.Range.forIn_eq_forIn_range', Std.Legacy.Range.size, Nat.sub_zero, Nat.add_sub_cancel, Nat.div_one, List.range'_succ, List.range'_zero, List.forIn_cons, List.forIn_nil]
  go_simp
  unfold eq7
  by_cases h0 : f 0 = g 0 <;> by_cases h1 : f 1 = g 1 <;> by_cases h2 : f 2 = g 2 <;> by_cases h3 : f 3 = g 3 <;> by_cases h4 : f 4 = g 4 <;> by_cases h5 : f 5 = g 5 <;> by_cases h6 : f 6 = g 6 <;> simp [h0, h1, h2, h3, h4, h5, h6]
set_option maxHeartbeats 4000000 in
set_option maxRecDepth 100000 in
theorem run_eqR (x y : Td) (w : World) : (binOp .eql 52 (.agg #[.bool x.em, .int .i64 x.sa, .int .i64 x.pa, .int .i64 (x.h 0), .int .i64 (x.h 1), .int .i64 (x.h 2), .int .i64 (x.h 3), .int .i64 (x.h 4), .int .i64 (x.h 5), .int .i64 (x.h 6), .string x.co]) (.agg #[.bool y.em, .int .i64 y.sa, .int .i64 y.pa, .int .i64 (y.h 0), .int .i64 (y.h 1), .int .i64 (y.h 2), .int .i64 (y.h 3), .int .i64 (y.h 4), .int .i64 (y.h 5), .int .i64 (y.h 6), .string y.co])).run Tryz.prog w = .ok (.bool (eqTd x y)) w := by
  have hw := eqW7 x.h y.h
  unfold eqTd
  generalize eq7 x.h y.h = b at hw ⊢
  by_cases h0 : x.em = y.em <;> by_cases h1 : x.sa = y.sa <;> by_cases h2 : x.pa = y.pa <;> by_cases h10 : x.co.toList = y.co.toList <;> cases b <;> go_simp
theorem ownLastP {X : Ls} {B : Nat} {v : Value} {O : List Spn} {x : Spn} {w : World} (h : w.ownsRow B 54 13 v (O.length + 1) (rowOf (encO X) (O ++ [x]))) : OwnP X B v (O ++ [x]) w := by
  show w.ownsRow B _ 13 v (O ++ [x]).length _
  rw [show (O ++ [x]).length = O.length + 1 by simp]
  exact h
theorem lastOfP {X : Ls} {B cp : Nat} {A : Option Addr} {O : List Spn} {x : Spn} {w : World} (h : OwnP X B (.slice A (O.length + 1) cp) (O ++ [x]) w) :
    ∃ g, A = some ⟨g, 0, none⟩ ∧ B ≤ g ∧ g < w.heap.size ∧ (∀ j u, (encO X x)[j]? = some u → w.cell? ⟨g, O.length * 13 + j, none⟩ = some u) ∧ w.ownsRow B 54 13 (.slice (some ⟨g, 0, none⟩) (O.length + 1) cp) (O.length + 1) (rowOf (encO X) (O ++ [x])) := by
  obtain ⟨g, cap, hv, hb, hr⟩ := Own.row (encO_len X) h (by simp)
  injection hv with h1 h2 h3
  subst h1; subst h3
  refine ⟨g, rfl, hb, hr.lt, fun j u hu => hr.cell (i := O.length) (by simp) hu, ?_⟩
  have h2 : w.ownsRow B 54 13 (.slice (some ⟨g, 0, none⟩) (O.length + 1) cp) (O ++ [x]).length (rowOf (encO X) (O ++ [x])) := h
  rwa [show (O ++ [x]).length = O.length + 1 by simp] at h2
theorem newsP (t : Td) (a b : Int) (W : World) : ∀ j u, (tdC { t with fr := a, «to» := b }).toList[j]? = some u → (W.alloc (.cells #[.int .i64 a, .int .i64 b, .bool t.em, .int .i64 t.sa, .int .i64 t.pa, .int .i64 (t.h 0), .int .i64 (t.h 1), .int .i64 (t.h 2), .int .i64 (t.h 3), .int .i64 (t.h 4), .int .i64 (t.h 5), .int .i64 (t.h 6), .string t.co] 54)).cell? ⟨W.heap.size, j, none⟩ = some u := fun j u hu => by
  rw [(Bk.new W _ _).cell j]
  simpa [tdC] using hu
theorem slP {X : Ls} {B : Nat} {v : Value} {O : List Spn} {w : World} (h : OwnP X B v O w) : ∃ A c, v = .slice A O.length c ∧ Hid (OwnP X B (.slice A O.length c) O w) := by
  obtain ⟨A, c, e, _⟩ := own_sl (encO_len X) h
  exact ⟨A, c, e, Lib.hid (by rw [← e]; exact h)⟩
theorem day_step {e : Int → Int → Bool} (F : Int) (k : Nat) : (dayP F (k + 1)).foldl (mrgS e) [] = mrgS e ((dayP F k).foldl (mrgS e) []) (F + k, F + k + 1) := by
  rw [dayP_snoc, List.foldl_append]
  rfl
set_option maxHeartbeats 8000000 in
set_option maxRecDepth 100000 in
theorem r16_Of (X : Ls) (V : Nat → Value) (F T : Int) (w : World) (hX : ∀ i, i < 5 → (X.at_ i).length ≤ 1000000) (hx : ∀ x ∈ X.d, x.2.tx.size ≤ 1000000) (hV : ∀ i, i < 5 → ∃ A c, V i = .slice A (X.at_ i).length c ∧ Sl encR 5 w w.heap.size A (X.at_ i)) (hF : -1000000000 ≤ F) (hFT : F ≤ T) (hT : T ≤ 1000000000) (hTF : T - F ≤ 1000000) :
    Calls Tryz.prog 20 #[.agg #[V 0, V 1, V 2, V 3, V 4], .agg #[.int .i64 F, .int .i64 T]] w fun e w' => (∃ A c, e = .returned (.slice A (runsOf (eT X) F T).length c) ∧ Sl (encO X) 13 w' w'.heap.size A (runsOf (eT X) F T)) ∧ Below w.heap.size w w' := by
  obtain ⟨fb, hfb⟩ : ∃ x, w.heap.size = x := ⟨_, rfl⟩
  obtain ⟨sb, hsb⟩ : ∃ x, fb + 1 = x := ⟨_, rfl⟩
  obtain ⟨w2, hw2⟩ : ∃ x, (w.alloc (.cells #[V 0, V 1, V 2, V 3, V 4] 42)).alloc (.cells #[.int .i64 F, .int .i64 T] 31) = x := ⟨_, rfl⟩
  obtain ⟨k1, k2, hb2⟩ := bkk2 w _ _ _ _ hfb hsb hw2
  have HB2 := Lib.hid hb2
  have HBF := Lib.hid k1
  have HBS := Lib.hid k2
  have HAT : Hid (∀ d W, Below w2.heap.size w2 W → Calls Tryz.prog 23 #[.agg #[V 0, V 1, V 2, V 3, V 4], .int .i64 d] W fun e w' => e = .returned (.agg (rtC (onX X d))) ∧ Below W.heap.size W w') := Lib.hid fun d W hW => r16_At X V d W hX hx fun i hi => by
    obtain ⟨A, c, h1, h2⟩ := hV i hi
    exact ⟨A, c, h1, sl_bel h2 (bTrans hb2 hW)⟩
  obtain ⟨A0, c0, v0, _⟩ := hV 0 (by omega)
  obtain ⟨n0, e0⟩ : ∃ n, (X.at_ 0).length = n := ⟨_, rfl⟩
  rw [e0] at v0
  obtain ⟨A1, c1, v1, _⟩ := hV 1 (by omega)
  obtain ⟨n1, e1⟩ : ∃ n, (X.at_ 1).length = n := ⟨_, rfl⟩
  rw [e1] at v1
  obtain ⟨A2, c2, v2, _⟩ := hV 2 (by omega)
  obtain ⟨n2, e2⟩ : ∃ n, (X.at_ 2).length = n := ⟨_, rfl⟩
  rw [e2] at v2
  obtain ⟨A3, c3, v3, _⟩ := hV 3 (by omega)
  obtain ⟨n3, e3⟩ : ∃ n, (X.at_ 3).length = n := ⟨_, rfl⟩
  rw [e3] at v3
  obtain ⟨A4, c4, v4, _⟩ := hV 4 (by omega)
  obtain ⟨n4, e4⟩ : ∃ n, (X.at_ 4).length = n := ⟨_, rfl⟩
  rw [e4] at v4
  rw [v0, v1, v2, v3, v4] at HAT HBF hw2 ⊢
  have HE := Lib.hid (And.intro hfb (And.intro hsb hw2))
  obtain ⟨N, hN⟩ : ∃ N : Nat, (T - F).toNat = N := ⟨_, rfl⟩
  have hTN : T = F + (N : Int) := by omega
  have hN6 : N ≤ 1000000 := by omega
  have HRUN : Hid (runsOf (eT X) F T = (dayP F N).foldl (mrgS (eT X)) []) := Lib.hid (by unfold runsOf; rw [hN])
  subst hTN
  clear hfb hsb hw2 k1 k2 hb2 hV hX hx v0 v1 v2 v3 v4 e0 e1 e2 e3 e4 hN
  go_enter Tryz.func20, Tryz.ntmps20
  go_upto_region 2 with fail
  rw [HE.out.1, HE.out.2.1, HE.out.2.2]
  clear HE
  have S0 : w2.cell? ⟨sb, 0, none⟩ = some (.int .i64 F) := HBS.out.cell 0
  go_wp2
  clear S0
  go_loopw [5, 6] (fun ov dv wr => ∃ k : Nat, k ≤ N ∧ dv = .int .i64 (F + k) ∧ (∃ A c, ov = .slice A ((dayP F k).foldl (mrgS (eT X)) []).length c ∧ Hid (OwnP X w2.heap.size (.slice A ((dayP F k).foldl (mrgS (eT X)) []).length c) ((dayP F k).foldl (mrgS (eT X)) []) wr)) ∧ Hid (Below w2.heap.size w2 wr)) (fun _ dv _ => (F + (N : Int) - intOf dv).toNat)
  case atStart => exact ⟨0, Nat.zero_le _, by simp, ⟨none, 0, rfl, Lib.hid (Own.nil _)⟩, Lib.hid (Below.refl _ _)⟩
  case round =>
    obtain ⟨k, hk, rfl, ⟨Ao, co, rfl, HOW⟩, HB⟩ := hrel
    obtain ⟨d, hd⟩ : ∃ d, F + (k : Int) = d := ⟨_, rfl⟩
    have S1 : wr.cell? ⟨sb, 1, none⟩ = some (.int .i64 (F + (N : Int))) := bCell HB.out (HBS.out.cell 1)
    by_cases hlt : k < N
    · have HTK := Lib.hid (day_step (e := eT X) F k)
      have hOl : ((dayP F k).foldl (mrgS (eT X)) []).length ≤ 1000000 := by
        have h1 := mrg_len (eT X) (dayP F k) []
        rw [dayP_len] at h1
        simp only [List.length_nil] at h1
        omega
      obtain ⟨O, hO⟩ : ∃ O, (dayP F k).foldl (mrgS (eT X)) [] = O := ⟨_, rfl⟩
      have hd1 : d < F + (N : Int) := by omega
      have hd2 : -1000000000 ≤ d ∧ d ≤ 1000000000 := by omega
      rw [hO, hd] at HTK
      rw [hO] at HOW hOl ⊢
      rw [hd]
      have C0 : wr.cell? ⟨fb, 0, none⟩ = some (.slice A0 n0 c0) := bCell HB.out (HBF.out.cell 0)
      have C1 : wr.cell? ⟨fb, 1, none⟩ = some (.slice A1 n1 c1) := bCell HB.out (HBF.out.cell 1)
      have C2 : wr.cell? ⟨fb, 2, none⟩ = some (.slice A2 n2 c2) := bCell HB.out (HBF.out.cell 2)
      have C3 : wr.cell? ⟨fb, 3, none⟩ = some (.slice A3 n3 c3) := bCell HB.out (HBF.out.cell 3)
      have C4 : wr.cell? ⟨fb, 4, none⟩ = some (.slice A4 n4 c4) := bCell HB.out (HBF.out.cell 4)
      have HA := Lib.hid (HAT.out d wr HB.out)
      have HDE := Lib.hid hd
      obtain ⟨t, ht⟩ : ∃ t, onX X d = t := ⟨_, rfl⟩
      rw [ht] at HA
      have HT := Lib.hid ht
      clear ht hO hd
      go_wp2_with fail
      refine HA.out.mono ?_
      rintro e w3 ⟨rfl, hb3⟩
      obtain ⟨tb, htb⟩ : ∃ z, w3.heap.size = z := ⟨_, rfl⟩
      obtain ⟨w4, hw4⟩ : ∃ z, w3.alloc (.cells #[.bool t.em, .int .i64 t.sa, .int .i64 t.pa, .int .i64 (t.h 0), .int .i64 (t.h 1), .int .i64 (t.h 2), .int .i64 (t.h 3), .int .i64 (t.h 4), .int .i64 (t.h 5), .int .i64 (t.h 6), .string t.co] 52) = z := ⟨_, rfl⟩
      have hb4 : Below wr.heap.size wr w4 := by rw [← hw4]; exact bTrans hb3 (bAlloc _ _)
      have HK4 : Hid (Bk tb 52 #[.bool t.em, .int .i64 t.sa, .int .i64 t.pa, .int .i64 (t.h 0), .int .i64 (t.h 1), .int .i64 (t.h 2), .int .i64 (t.h 3), .int .i64 (t.h 4), .int .i64 (t.h 5), .int .i64 (t.h 6), .string t.co] w4) := Lib.hid (by rw [← hw4, ← htb]; exact Bk.new _ _ _)
      have HO4 := Lib.hid (own_bel HOW.out hb4)
      have HB4 : Hid (Below w2.heap.size w2 w4) := Lib.hid (bTrans HB.out hb4)
      have HE := Lib.hid (And.intro htb hw4)
      clear htb hw4 hb3 hb4 HA HOW HB C0 C1 C2 C3 C4 S1
      unfold rtC
      go_upto_region 6 with fail
      rw [HE.out.1, HE.out.2]
      clear HE
      have T0 : w4.cell? ⟨tb, 0, none⟩ = some (.bool t.em) := HK4.out.cell 0
      have T1 : w4.cell? ⟨tb, 1, none⟩ = some (.int .i64 t.sa) := HK4.out.cell 1
      have T2 : w4.cell? ⟨tb, 2, none⟩ = some (.int .i64 t.pa) := HK4.out.cell 2
      have T3 : w4.cell? ⟨tb, 3, none⟩ = some (.int .i64 (t.h 0)) := HK4.out.cell 3
      have T4 : w4.cell? ⟨tb, 4, none⟩ = some (.int .i64 (t.h 1)) := HK4.out.cell 4
      have T5 : w4.cell? ⟨tb, 5, none⟩ = some (.int .i64 (t.h 2)) := HK4.out.cell 5
      have T6 : w4.cell? ⟨tb, 6, none⟩ = some (.int .i64 (t.h 3)) := HK4.out.cell 6
      have T7 : w4.cell? ⟨tb, 7, none⟩ = some (.int .i64 (t.h 4)) := HK4.out.cell 7
      have T8 : w4.cell? ⟨tb, 8, none⟩ = some (.int .i64 (t.h 5)) := HK4.out.cell 8
      have T9 : w4.cell? ⟨tb, 9, none⟩ = some (.int .i64 (t.h 6)) := HK4.out.cell 9
      have T10 : w4.cell? ⟨tb, 10, none⟩ = some (.string t.co) := HK4.out.cell 10
      rcases O.eq_nil_or_concat with hO | ⟨Q, q, hO⟩
      · subst hO
        have HV : Hid ((dayP F (k + 1)).foldl (mrgS (eT X)) [] = [(d, d + 1)]) := Lib.hid HTK.out
        go_wp2
        go_quiet (fail)
        rename_i nq
        obtain ⟨w5, hw5⟩ : ∃ z, w4.drewN nq = z := ⟨_, rfl⟩
        have HO5 : Hid (OwnP X w2.heap.size (.slice Ao 0 co) [] w5) := Lib.hid (by rw [← hw5]; exact own_bel HO4.out (bDrewN w4 nq))
        have HB5 : Hid (Below w2.heap.size w2 w5) := Lib.hid (by rw [← hw5]; exact HB4.out.trans ((bDrewN w4 nq).mono HB4.out.size))
        have HK5 : Hid (Bk tb 52 #[.bool t.em, .int .i64 t.sa, .int .i64 t.pa, .int .i64 (t.h 0), .int .i64 (t.h 1), .int .i64 (t.h 2), .int .i64 (t.h 3), .int .i64 (t.h 4), .int .i64 (t.h 5), .int .i64 (t.h 6), .string t.co] w5) := Lib.hid (by rw [← hw5]; exact HK4.out)
        rw [hw5]
        clear hw5 HO4 HB4 HK4 T0 T1 T2 T3 T4 T5 T6 T7 T8 T9 T10
        have T0 : w5.cell? ⟨tb, 0, none⟩ = some (.bool t.em) := HK5.out.cell 0
        have T1 : w5.cell? ⟨tb, 1, none⟩ = some (.int .i64 t.sa) := HK5.out.cell 1
        have T2 : w5.cell? ⟨tb, 2, none⟩ = some (.int .i64 t.pa) := HK5.out.cell 2
        have T3 : w5.cell? ⟨tb, 3, none⟩ = some (.int .i64 (t.h 0)) := HK5.out.cell 3
        have T4 : w5.cell? ⟨tb, 4, none⟩ = some (.int .i64 (t.h 1)) := HK5.out.cell 4
        have T5 : w5.cell? ⟨tb, 5, none⟩ = some (.int .i64 (t.h 2)) := HK5.out.cell 5
        have T6 : w5.cell? ⟨tb, 6, none⟩ = some (.int .i64 (t.h 3)) := HK5.out.cell 6
        have T7 : w5.cell? ⟨tb, 7, none⟩ = some (.int .i64 (t.h 4)) := HK5.out.cell 7
        have T8 : w5.cell? ⟨tb, 8, none⟩ = some (.int .i64 (t.h 5)) := HK5.out.cell 8
        have T9 : w5.cell? ⟨tb, 9, none⟩ = some (.int .i64 (t.h 6)) := HK5.out.cell 9
        have T10 : w5.cell? ⟨tb, 10, none⟩ = some (.string t.co) := HK5.out.cell 10
        have HSZ : Hid (w2.heap.size ≤ w5.heap.size) := Lib.hid HB5.out.size
        have HNW : Hid (∀ j u, (encO X (d, d + 1))[j]? = some u → (w5.alloc (.cells #[.int .i64 d, .int .i64 (d + 1), .bool t.em, .int .i64 t.sa, .int .i64 t.pa, .int .i64 (t.h 0), .int .i64 (t.h 1), .int .i64 (t.h 2), .int .i64 (t.h 3), .int .i64 (t.h 4), .int .i64 (t.h 5), .int .i64 (t.h 6), .string t.co] 54)).cell? ⟨w5.heap.size, j, none⟩ = some u) := Lib.hid fun j u hu => by
          unfold encO at hu
          rw [HT.out] at hu
          exact newsP t d (d + 1) w5 j u hu
        go_wp2_with ((at_builtin; refine wpList_append_row (encO_len X) (encO_one X) rfl _ _ 38 rfl w2.heap.size 54 _ 112 Tryz.underlying38 pieceRInfo rfl (by decide) _ [] (d, d + 1) rfl (HO5.out.alloc _) w5.heap.size 1 rfl HNW.out (by simp) (by decide) (Nat.le_trans HSZ.out (Grows.of_alloc w5 _).size) ?_))
        intro v15 w15 hown15 hgr15
        have HB15 : Hid (Below w2.heap.size w2 w15) := Lib.hid (bel_own (HB5.out.trans ((bAlloc w5 _).mono HSZ.out)) (Nat.le_trans HSZ.out (Grows.of_alloc w5 _).size) (HO5.out.alloc _) hgr15)
        have HO15 := Lib.hid hown15
        clear hown15 hgr15 T0 T1 T2 T3 T4 T5 T6 T7 T8 T9 T10
        go_wp2
        exact ⟨⟨k + 1, by omega, by rw [← HDE.out]; go_num, by
          rw [HV.out]
          exact slP HO15.out, HB15⟩, by simp [intOf]; omega⟩
      · rw [List.concat_eq_append] at hO
        subst hO
        have hlen : (Q ++ [q]).length = Q.length + 1 := by simp
        rw [hlen] at HO4 hOl ⊢
        clear hlen
        obtain ⟨g, rfl, hg1, hg2, hc, hrow⟩ := lastOfP HO4.out
        obtain ⟨tq, htq⟩ : ∃ z, onX X q.1 = z := ⟨_, rfl⟩
        have hcq : encO X q = (tdC { tq with fr := q.1, «to» := q.2 }).toList := by unfold encO; rw [htq]
        rw [hcq] at hc
        have D0 : w4.cell? ⟨g, Q.length * 13, none⟩ = some (.int .i64 q.1) := hc 0 _ rfl
        have D1 : w4.cell? ⟨g, Q.length * 13 + 1, none⟩ = some (.int .i64 q.2) := hc 1 _ rfl
        have D2 : w4.cell? ⟨g, Q.length * 13 + 2, none⟩ = some (.bool tq.em) := hc 2 _ rfl
        have D3 : w4.cell? ⟨g, Q.length * 13 + 3, none⟩ = some (.int .i64 tq.sa) := hc 3 _ rfl
        have D4 : w4.cell? ⟨g, Q.length * 13 + 4, none⟩ = some (.int .i64 tq.pa) := hc 4 _ rfl
        have D5 : w4.cell? ⟨g, Q.length * 13 + 5, none⟩ = some (.int .i64 (tq.h 0)) := hc 5 _ rfl
        have D6 : w4.cell? ⟨g, Q.length * 13 + 6, none⟩ = some (.int .i64 (tq.h 1)) := hc 6 _ rfl
        have D7 : w4.cell? ⟨g, Q.length * 13 + 7, none⟩ = some (.int .i64 (tq.h 2)) := hc 7 _ rfl
        have D8 : w4.cell? ⟨g, Q.length * 13 + 8, none⟩ = some (.int .i64 (tq.h 3)) := hc 8 _ rfl
        have D9 : w4.cell? ⟨g, Q.length * 13 + 9, none⟩ = some (.int .i64 (tq.h 4)) := hc 9 _ rfl
        have D10 : w4.cell? ⟨g, Q.length * 13 + 10, none⟩ = some (.int .i64 (tq.h 5)) := hc 10 _ rfl
        have D11 : w4.cell? ⟨g, Q.length * 13 + 11, none⟩ = some (.int .i64 (tq.h 6)) := hc 11 _ rfl
        have D12 : w4.cell? ⟨g, Q.length * 13 + 12, none⟩ = some (.string tq.co) := hc 12 _ rfl
        obtain ⟨eqb, heqb⟩ : ∃ z, eqTd tq t = z := ⟨_, rfl⟩
        have hq : ∀ W : World, (binOp .eql 52 (.agg #[.bool tq.em, .int .i64 tq.sa, .int .i64 tq.pa, .int .i64 (tq.h 0), .int .i64 (tq.h 1), .int .i64 (tq.h 2), .int .i64 (tq.h 3), .int .i64 (tq.h 4), .int .i64 (tq.h 5), .int .i64 (tq.h 6), .string tq.co]) (.agg #[.bool t.em, .int .i64 t.sa, .int .i64 t.pa, .int .i64 (t.h 0), .int .i64 (t.h 1), .int .i64 (t.h 2), .int .i64 (t.h 3), .int .i64 (t.h 4), .int .i64 (t.h 5), .int .i64 (t.h 6), .string t.co])).run Tryz.prog W = .ok (.bool eqb) W := fun W => by rw [run_eqR, heqb]
        have HEQ : Hid (eT X q.1 d = eqb) := Lib.hid (by rw [← heqb, eqTd_key]; unfold eT; rw [HT.out, htq])
        have HCQ := Lib.hid hcq
        have HG := Lib.hid (And.intro hg1 hg2)
        have hi1 : (Q.length : Int) < (Q.length : Int) + 1 := by omega
        have hi2 : Q.length < Q.length + 1 := by omega
        have hi3 : ¬ ((Q.length : Int) < 0) := by omega
        have hi4 : (0 : Int) ≤ (Q.length : Int) := by omega
        have hi5 : decide ((0 : Int) < (Q.length : Int) + 1) = true := decide_eq_true (by omega)
        clear hc hrow htq hcq heqb hg1 hg2
        go_wp2
        go_quiet (fail)
        rename_i nq
        obtain ⟨w5, hw5⟩ : ∃ z, w4.drewN nq = z := ⟨_, rfl⟩
        have HO5 : Hid (OwnP X w2.heap.size (.slice (some ⟨g, 0, none⟩) (Q.length + 1) co) (Q ++ [q]) w5) := Lib.hid (by rw [← hw5]; exact own_bel HO4.out (bDrewN w4 nq))
        have HB5 : Hid (Below w2.heap.size w2 w5) := Lib.hid (by rw [← hw5]; exact HB4.out.trans ((bDrewN w4 nq).mono HB4.out.size))
        have HK5 : Hid (Bk tb 52 #[.bool t.em, .int .i64 t.sa, .int .i64 t.pa, .int .i64 (t.h 0), .int .i64 (t.h 1), .int .i64 (t.h 2), .int .i64 (t.h 3), .int .i64 (t.h 4), .int .i64 (t.h 5), .int .i64 (t.h 6), .string t.co] w5) := Lib.hid (by rw [← hw5]; exact HK4.out)
        rw [hw5]
        clear hw5 HO4 HB4 HK4 hq D0 D1 D2 D3 D4 D5 D6 D7 D8 D9 D10 D11 D12 T0 T1 T2 T3 T4 T5 T6 T7 T8 T9 T10
        obtain ⟨g', hgg, _, _, hc, hrow⟩ := lastOfP HO5.out
        injection hgg with hgg
        injection hgg with hgg _ _
        subst hgg
        rw [HCQ.out] at hc
        have D1 : w5.cell? ⟨g, Q.length * 13 + 1, none⟩ = some (.int .i64 q.2) := hc 1 _ rfl
        have F1 := World.ownsRow.frozenAt hrow (Q.length * 13 + 1)
        have HRW := Lib.hid hrow
        clear hc hrow
        cases eqb with
        | true =>
          have HV : Hid ((dayP F (k + 1)).foldl (mrgS (eT X)) [] = Q ++ [(q.1, d + 1)]) := Lib.hid (by rw [HTK.out, mrgS_snoc, if_pos HEQ.out])
          have HST : Hid (OwnP X w2.heap.size (.slice (some ⟨g, 0, none⟩) (Q.length + 1) co) (Q ++ [(q.1, d + 1)]) (w5.setCell ⟨g, Q.length * 13 + 1, none⟩ (.int .i64 (d + 1))) ∧ Below w2.heap.size w2 (w5.setCell ⟨g, Q.length * 13 + 1, none⟩ (.int .i64 (d + 1)))) := Lib.hid (by
            have hst := World.ownsRow.stored HRW.out (Q.length * 13 + 1) (.int .i64 (d + 1))
            rw [setLastO] at hst
            exact ⟨ownLastP hst.1, HB5.out.setCell (p := ⟨g, Q.length * 13 + 1, none⟩) HG.out.1 _⟩)
          go_wp2
          exact ⟨⟨k + 1, by omega, by rw [← HDE.out]; go_num, by
            rw [HV.out]
            exact slP HST.out.1, Lib.hid HST.out.2⟩, by simp [intOf]; omega⟩
        | false =>
          have HV : Hid ((dayP F (k + 1)).foldl (mrgS (eT X)) [] = Q ++ [q, (d, d + 1)]) := Lib.hid (by rw [HTK.out, mrgS_snoc, if_neg (by rw [HEQ.out]; simp)])
          have T0 : w5.cell? ⟨tb, 0, none⟩ = some (.bool t.em) := HK5.out.cell 0
          have T1 : w5.cell? ⟨tb, 1, none⟩ = some (.int .i64 t.sa) := HK5.out.cell 1
          have T2 : w5.cell? ⟨tb, 2, none⟩ = some (.int .i64 t.pa) := HK5.out.cell 2
          have T3 : w5.cell? ⟨tb, 3, none⟩ = some (.int .i64 (t.h 0)) := HK5.out.cell 3
          have T4 : w5.cell? ⟨tb, 4, none⟩ = some (.int .i64 (t.h 1)) := HK5.out.cell 4
          have T5 : w5.cell? ⟨tb, 5, none⟩ = some (.int .i64 (t.h 2)) := HK5.out.cell 5
          have T6 : w5.cell? ⟨tb, 6, none⟩ = some (.int .i64 (t.h 3)) := HK5.out.cell 6
          have T7 : w5.cell? ⟨tb, 7, none⟩ = some (.int .i64 (t.h 4)) := HK5.out.cell 7
          have T8 : w5.cell? ⟨tb, 8, none⟩ = some (.int .i64 (t.h 5)) := HK5.out.cell 8
          have T9 : w5.cell? ⟨tb, 9, none⟩ = some (.int .i64 (t.h 6)) := HK5.out.cell 9
          have T10 : w5.cell? ⟨tb, 10, none⟩ = some (.string t.co) := HK5.out.cell 10
          have HSZ : Hid (w2.heap.size ≤ w5.heap.size) := Lib.hid HB5.out.size
          have HNW : Hid (∀ j u, (encO X (d, d + 1))[j]? = some u → (w5.alloc (.cells #[.int .i64 d, .int .i64 (d + 1), .bool t.em, .int .i64 t.sa, .int .i64 t.pa, .int .i64 (t.h 0), .int .i64 (t.h 1), .int .i64 (t.h 2), .int .i64 (t.h 3), .int .i64 (t.h 4), .int .i64 (t.h 5), .int .i64 (t.h 6), .string t.co] 54)).cell? ⟨w5.heap.size, j, none⟩ = some u) := Lib.hid fun j u hu => by
            unfold encO at hu
            rw [HT.out] at hu
            exact newsP t d (d + 1) w5 j u hu
          go_wp2_with ((at_builtin; refine wpList_append_row (encO_len X) (encO_one X) rfl _ _ 38 rfl w2.heap.size 54 _ 112 Tryz.underlying38 pieceRInfo rfl (by decide) _ (Q ++ [q]) (d, d + 1) rfl (HO5.out.alloc _) w5.heap.size 1 rfl HNW.out (by simp; omega) (by decide) (Nat.le_trans HSZ.out (Grows.of_alloc w5 _).size) ?_))
          intro v15 w15 hown15 hgr15
          have HB15 : Hid (Below w2.heap.size w2 w15) := Lib.hid (bel_own (HB5.out.trans ((bAlloc w5 _).mono HSZ.out)) (Nat.le_trans HSZ.out (Grows.of_alloc w5 _).size) (HO5.out.alloc _) hgr15)
          have HO15 := Lib.hid hown15
          clear hown15 hgr15 T0 T1 T2 T3 T4 T5 T6 T7 T8 T9 T10
          go_wp2
          exact ⟨⟨k + 1, by omega, by rw [← HDE.out]; go_num, by
            rw [HV.out]
            exact slP HO15.out, HB15⟩, by simp [intOf]; omega⟩
    · obtain rfl : k = N := by omega
      have HZ : Hid (OwnP X w2.heap.size (.slice Ao (runsOf (eT X) F (F + (k : Int))).length co) (runsOf (eT X) F (F + (k : Int))) wr) := Lib.hid (by rw [HRUN.out]; exact HOW.out)
      have HL : Hid (((dayP F k).foldl (mrgS (eT X)) []).length = (runsOf (eT X) F (F + (k : Int))).length) := Lib.hid (by rw [HRUN.out])
      clear HOW
      go_wp2
      go_ret
      exact ⟨by
        obtain ⟨A, c, e, _, h⟩ := own_sl (encO_len X) HZ.out
        injection e with e1 _ e3
        subst e1
        exact ⟨_, co, by rw [HL.out]; rfl, h⟩, bTrans HB2.out HB.out⟩
end Go.Proofs.YtlgoaohklggcdaaGreatDoor
