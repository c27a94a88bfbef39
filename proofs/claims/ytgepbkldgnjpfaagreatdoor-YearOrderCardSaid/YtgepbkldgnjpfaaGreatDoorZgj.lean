/- Out of: SoA. -/
import Derived.Test.YtgepbkldgnjpfaaGreatDoorZgi
import Derived.Below
import Derived.BigQuiet
import Derived.BigRegion
import Derived.Deep.QuietTactic
import Derived.Laws.AppendOwn
import Derived.Laws.Rows
import Derived.Lib.Hide
import Derived.OwnWalk
import Derived.Shelf.SlSortCmp.QuietGrown
import Derived.WalkKit
/- The stable sort of moves, by Go's text, first part. (Leave's sort of deeds, turned to elements of three cells: gen/turnm.py.) -/
namespace Go.Proofs.YtgepbkldgnjpfaaGreatDoor.Ao
open Go.RowKit Go.Sort Go.BigFrame

abbrev RowE (g cap : Nat) (l : List Eo) (w : World) : Prop := Rw encE 6 61 g cap l w
/-- Two elements change places. -/
theorem RowE.swap {g cap : Nat} {P M Q : List Eo} {x y : Eo} {w : World} (h : RowE g cap (P ++ x :: (M ++ y :: Q)) w) {i j : Nat} (hi : P.length = i) (hj : i + 1 + M.length = j) :
    w.grownBy ((w.setCells g (i * 6) (encE y)).setCells g (j * 6) (encE x)) (some g) ∧ RowE g cap (P ++ y :: (M ++ x :: Q)) ((w.setCells g (i * 6) (encE y)).setCells g (j * 6) (encE x)) := by
  have h1 := Rw.set_ encE_len h (i := i) (by simp; omega) y
  rw [set_mid _ _ _ _ hi] at h1
  have h2 := Rw.set_ encE_len h1 (i := j) (by simp; omega) x
  have e : P ++ y :: (M ++ y :: Q) = (P ++ y :: M) ++ y :: Q := by simp
  rw [e, set_mid _ _ _ _ (by simp; omega)] at h2
  exact ⟨gTrans (grown_setCells _ _ _) (grown_setCells _ _ _), by simpa using h2⟩

/-- The same, the later cells written first. -/
theorem RowE.swapUp {g cap : Nat} {P M Q : List Eo} {x y : Eo} {w : World} (h : RowE g cap (P ++ x :: (M ++ y :: Q)) w) {i j : Nat} (hi : P.length = i) (hj : i + 1 + M.length = j) :
    w.grownBy ((w.setCells g (j * 6) (encE x)).setCells g (i * 6) (encE y)) (some g) ∧ RowE g cap (P ++ y :: (M ++ x :: Q)) ((w.setCells g (j * 6) (encE x)).setCells g (i * 6) (encE y)) := by
  have h1 := Rw.set_ encE_len h (i := j) (by simp; omega) x
  have e : P ++ x :: (M ++ y :: Q) = (P ++ x :: M) ++ y :: Q := by simp
  rw [e, set_mid _ _ _ _ (by simp; omega)] at h1
  have h2 := Rw.set_ encE_len h1 (i := i) (by simp; omega) y
  have e2 : P ++ x :: M ++ x :: Q = P ++ x :: (M ++ x :: Q) := by simp
  rw [e2, set_mid _ _ _ _ hi] at h2
  exact ⟨gTrans (grown_setCells _ _ _) (grown_setCells _ _ _), h2⟩

/-- What a swap of two elements asks and does: x lies at pa, y at pb; first y is written at pa, then x at pb. -/
structure Swp (g cap pa pb : Nat) (x y : Eo) (l : List Eo) (w w1 w2 : World) : Prop where
  ca : ∀ j u, (encE x)[j]? = some u → w.cell? ⟨g, pa + j, none⟩ = some u
  cb : ∀ j u, (encE y)[j]? = some u → w.cell? ⟨g, pb + j, none⟩ = some u
  fz : ∀ o, w.frozen? ⟨g, o, none⟩ = false
  c1 : ∀ j, j < 6 → ∃ u, w1.cell? ⟨g, pb + j, none⟩ = some u
  f1 : ∀ o, w1.frozen? ⟨g, o, none⟩ = false
  e1 : w.setCells g pa (encE y) = w1
  e2 : w1.setCells g pb (encE x) = w2
  gr : w.grownBy w2 (some g)
  ro : RowE g cap l w2
theorem encE_some (y : Eo) (j : Nat) (hj : j < 6) : ∃ u, (encE y)[j]? = some u := ⟨_, List.getElem?_eq_getElem (by rw [encE_len]; exact hj)⟩
theorem RowE.swp {g cap : Nat} {P M Q : List Eo} {x y : Eo} {w : World} (h : RowE g cap (P ++ x :: (M ++ y :: Q)) w) {i j : Nat} (hi : P.length = i) (hj : i + 1 + M.length = j) {pa pb : Nat} (hpa : i * 6 = pa) (hpb : j * 6 = pb) :
    ∃ w1 w2, Swp g cap pa pb x y (P ++ y :: (M ++ x :: Q)) w w1 w2 := by
  subst hpa; subst hpb
  have hsw := h.swap hi hj
  have gx := get_mid P (M ++ y :: Q) x hi
  have gy : (P ++ x :: (M ++ y :: Q))[j]? = some y := by
    have := get_mid (P ++ x :: M) Q y (n := j) (by simp; omega)
    simpa using this
  have h1 := Rw.set_ encE_len h (i := i) (by simp; omega) y
  rw [set_mid _ _ _ _ hi] at h1
  have gy1 : (P ++ y :: (M ++ y :: Q))[j]? = some y := by
    have := get_mid (P ++ y :: M) Q y (n := j) (by simp; omega)
    simpa using this
  exact ⟨_, _, fun _ _ hu => h.cell gx hu, fun _ _ hu => h.cell gy hu, h.frozen, fun k hk => by
    obtain ⟨u, hu⟩ := encE_some y k hk
    exact ⟨u, h1.cell gy1 hu⟩, h1.frozen, rfl, rfl, hsw.1, hsw.2⟩
theorem RowE.swpUp {g cap : Nat} {P M Q : List Eo} {x y : Eo} {w : World} (h : RowE g cap (P ++ y :: (M ++ x :: Q)) w) {i j : Nat} (hi : P.length = i) (hj : i + 1 + M.length = j) {pa pb : Nat} (hpa : j * 6 = pa) (hpb : i * 6 = pb) :
    ∃ w1 w2, Swp g cap pa pb x y (P ++ x :: (M ++ y :: Q)) w w1 w2 := by
  subst hpa; subst hpb
  have hsw := h.swapUp hi hj
  have gy := get_mid P (M ++ x :: Q) y hi
  have gx : (P ++ y :: (M ++ x :: Q))[j]? = some x := by
    have := get_mid (P ++ y :: M) Q x (n := j) (by simp; omega)
    simpa using this
  have h1 := Rw.set_ encE_len h (i := j) (by simp; omega) y
  have e : P ++ y :: (M ++ x :: Q) = (P ++ y :: M) ++ x :: Q := by simp
  rw [e, set_mid _ _ _ _ (by simp; omega)] at h1
  have gy1 : (P ++ y :: M ++ y :: Q)[i]? = some y := by
    have := get_mid P (M ++ y :: Q) y hi
    simpa using this
  exact ⟨_, _, fun _ _ hu => h.cell gx hu, fun _ _ hu => h.cell gy hu, h.frozen, fun k hk => by
    obtain ⟨u, hu⟩ := encE_some y k hk
    exact ⟨u, h1.cell gy1 hu⟩, h1.frozen, rfl, rfl, hsw.1, hsw.2⟩

set_option maxRecDepth 100000 in
set_option maxHeartbeats 4000000 in
theorem swapRange (g cap N a b n : Nat) (A X M Y Z : List Eo) (F : Value) (w : World) (hN : (A ++ X ++ M ++ Y ++ Z).length = N) (hn : N ≤ 1000000) (ha : A.length = a) (hb : a + X.length + M.length = b) (hX : X.length = n) (hY : Y.length = n)
    (hr : RowE g cap (A ++ X ++ M ++ Y ++ Z) w) :
    Calls Tryz.prog 204 #[.slice (some ⟨g, 0, none⟩) N cap, .int .i64 a, .int .i64 b, .int .i64 n, F] w fun e w' =>
      e = .returned (.tuple #[]) ∧ w.grownBy w' (some g) ∧ RowE g cap (A ++ Y ++ M ++ X ++ Z) w' := by
  have hbn : b + n ≤ N := by simp at hN; omega
  have han : a + n ≤ b := by omega
  have HH := Lib.hid (show _ from And.intro hN (And.intro ha (And.intro hb (And.intro hX hY))))
  clear hN ha hb hX hY
  go_enter Tryz.func204, Tryz.ntmps204
  go_wp2
  go_loopw [10] (fun iv wr => ∃ i : Nat, i ≤ n ∧ iv = .int .i64 i ∧ w.grownBy wr (some g) ∧ ∃ A' X' M' Y' : List Eo, RowE g cap (A' ++ X' ++ M' ++ Y' ++ Z) wr ∧ A ++ Y ++ M ++ X ++ Z = A' ++ Y' ++ M' ++ X' ++ Z ∧ A'.length = a + i ∧ a + i + X'.length + M'.length = b + i ∧ X'.length + i = n ∧ Y'.length + i = n) (fun iv _ => n - (intOf iv).toNat)
  case atStart => exact ⟨0, Nat.zero_le _, rfl, World.grownBy.refl _ _, A, X, M, Y, hr, rfl, HH.out.2.1, HH.out.2.2.1, HH.out.2.2.2.1, HH.out.2.2.2.2⟩
  case round =>
    obtain ⟨i, hi, rfl, hg, A', X', M', Y', hrr, hT, hA, hM, hX, hY⟩ := hrel
    by_cases hlt : i < n
    · obtain ⟨x, X', rfl⟩ := List.exists_cons_of_length_pos (show 0 < X'.length by omega)
      obtain ⟨y, Y', rfl⟩ := List.exists_cons_of_length_pos (show 0 < Y'.length by omega)
      obtain ⟨xa, fa⟩ := x
      obtain ⟨xb, fb⟩ := y
      rw [List.length_cons] at hX hY hM
      have hr1 : RowE g cap (A' ++ (Eo.mk xa fa) :: ((X' ++ M') ++ (Eo.mk xb fb) :: (Y' ++ Z))) wr := by simpa using hrr
      have gx := get_mid A' ((X' ++ M') ++ (Eo.mk xb fb) :: (Y' ++ Z)) (Eo.mk xa fa) hA
      have gy : (A' ++ (Eo.mk xa fa) :: ((X' ++ M') ++ (Eo.mk xb fb) :: (Y' ++ Z)))[b + i]? = some (Eo.mk xb fb) := by
        have := get_mid (A' ++ (Eo.mk xa fa) :: (X' ++ M')) (Y' ++ Z) (Eo.mk xb fb) (n := b + i) (by simp; omega)
        simpa using this
      obtain ⟨pa, hpa⟩ : ∃ p, (a + i) * 6 = p := ⟨_, rfl⟩
      obtain ⟨pb, hpb⟩ : ∃ p, (b + i) * 6 = p := ⟨_, rfl⟩
      obtain ⟨wd, hwd⟩ : ∃ x, wr.drew = x := ⟨_, rfl⟩
      have hrd : RowE g cap (A' ++ (Eo.mk xa fa) :: ((X' ++ M') ++ (Eo.mk xb fb) :: (Y' ++ Z))) wd := by rw [← hwd]; exact hr1
      obtain ⟨w1, w2, hs⟩ := hrd.swp (i := a + i) (j := b + i) hA (by simp; omega) hpa hpb
      have hgd : w.grownBy wd (some g) := by rw [← hwd]; exact gDrew hg
      have sa0 : wd.cell? ⟨g, pa, none⟩ = some (.string fa.1.co) := hs.ca 0 _ rfl
      have sa1 : wd.cell? ⟨g, pa + 1, none⟩ = some (.int .i64 fa.1.ra) := hs.ca 1 _ rfl
      have sa2 : wd.cell? ⟨g, pa + 2, none⟩ = some (.int .i64 fa.1.rt) := hs.ca 2 _ rfl
      have sa3 : wd.cell? ⟨g, pa + 3, none⟩ = some (.int .i64 fa.1.fx) := hs.ca 3 _ rfl
      have sa4 : wd.cell? ⟨g, pa + 4, none⟩ = some (.int .i64 fa.1.pr) := hs.ca 4 _ rfl
      have sa5 : wd.cell? ⟨g, pa + 5, none⟩ = some (.int .i64 fa.1.tt) := hs.ca 5 _ rfl
      have sb0 : wd.cell? ⟨g, pb, none⟩ = some (.string fb.1.co) := hs.cb 0 _ rfl
      have sb1 : wd.cell? ⟨g, pb + 1, none⟩ = some (.int .i64 fb.1.ra) := hs.cb 1 _ rfl
      have sb2 : wd.cell? ⟨g, pb + 2, none⟩ = some (.int .i64 fb.1.rt) := hs.cb 2 _ rfl
      have sb3 : wd.cell? ⟨g, pb + 3, none⟩ = some (.int .i64 fb.1.fx) := hs.cb 3 _ rfl
      have sb4 : wd.cell? ⟨g, pb + 4, none⟩ = some (.int .i64 fb.1.pr) := hs.cb 4 _ rfl
      have sb5 : wd.cell? ⟨g, pb + 5, none⟩ = some (.int .i64 fb.1.tt) := hs.cb 5 _ rfl
      have fa0 : wd.frozen? ⟨g, pa, none⟩ = false := hs.fz _
      have fa1 : wd.frozen? ⟨g, pa + 1, none⟩ = false := hs.fz _
      have fa2 : wd.frozen? ⟨g, pa + 2, none⟩ = false := hs.fz _
      have fa3 : wd.frozen? ⟨g, pa + 3, none⟩ = false := hs.fz _
      have fa4 : wd.frozen? ⟨g, pa + 4, none⟩ = false := hs.fz _
      have fa5 : wd.frozen? ⟨g, pa + 5, none⟩ = false := hs.fz _
      obtain ⟨zb0, sc0⟩ : ∃ u, w1.cell? ⟨g, pb, none⟩ = some u := hs.c1 0 (by omega)
      have fb0 : w1.frozen? ⟨g, pb, none⟩ = false := hs.f1 _
      obtain ⟨zb1, sc1⟩ : ∃ u, w1.cell? ⟨g, pb + 1, none⟩ = some u := hs.c1 1 (by omega)
      have fb1 : w1.frozen? ⟨g, pb + 1, none⟩ = false := hs.f1 _
      obtain ⟨zb2, sc2⟩ : ∃ u, w1.cell? ⟨g, pb + 2, none⟩ = some u := hs.c1 2 (by omega)
      have fb2 : w1.frozen? ⟨g, pb + 2, none⟩ = false := hs.f1 _
      obtain ⟨zb3, sc3⟩ : ∃ u, w1.cell? ⟨g, pb + 3, none⟩ = some u := hs.c1 3 (by omega)
      have fb3 : w1.frozen? ⟨g, pb + 3, none⟩ = false := hs.f1 _
      obtain ⟨zb4, sc4⟩ : ∃ u, w1.cell? ⟨g, pb + 4, none⟩ = some u := hs.c1 4 (by omega)
      have fb4 : w1.frozen? ⟨g, pb + 4, none⟩ = false := hs.f1 _
      obtain ⟨zb5, sc5⟩ : ∃ u, w1.cell? ⟨g, pb + 5, none⟩ = some u := hs.c1 5 (by omega)
      have fb5 : w1.frozen? ⟨g, pb + 5, none⟩ = false := hs.f1 _
      have he1 : (((((wd.setCell ⟨g, pa, none⟩ (.string fb.1.co)).setCell ⟨g, pa + 1, none⟩ (.int .i64 fb.1.ra)).setCell ⟨g, pa + 2, none⟩ (.int .i64 fb.1.rt)).setCell ⟨g, pa + 3, none⟩ (.int .i64 fb.1.fx)).setCell ⟨g, pa + 4, none⟩ (.int .i64 fb.1.pr)).setCell ⟨g, pa + 5, none⟩ (.int .i64 fb.1.tt) = w1 := hs.e1
      have he2 : (((((w1.setCell ⟨g, pb, none⟩ (.string fa.1.co)).setCell ⟨g, pb + 1, none⟩ (.int .i64 fa.1.ra)).setCell ⟨g, pb + 2, none⟩ (.int .i64 fa.1.rt)).setCell ⟨g, pb + 3, none⟩ (.int .i64 fa.1.fx)).setCell ⟨g, pb + 4, none⟩ (.int .i64 fa.1.pr)).setCell ⟨g, pb + 5, none⟩ (.int .i64 fa.1.tt) = w2 := hs.e2
      have v1 : IntKind.i64.wrap ((a : Int) + i) = (a : Int) + i := IntWalk.i64_in _ (by omega)
      have v2 : IntKind.i64.wrap ((b : Int) + i) = (b : Int) + i := IntWalk.i64_in _ (by omega)
      have hx : RowE g cap ((A' ++ [(Eo.mk xb fb)]) ++ X' ++ (M' ++ [(Eo.mk xa fa)]) ++ Y' ++ Z) w2 := by
        have := hs.ro; simp only [List.append_assoc, List.cons_append, List.nil_append] at this ⊢; exact this
      have HS := Lib.hid (And.intro (gTrans hgd hs.gr) hx)
      have HT := Lib.hid hT
      have HL := Lib.hid (And.intro hA (And.intro hM (And.intro hX hY)))
      clear hs hx hrd hgd hT hA hM hX hY gx gy hr1 hrr hr
      go_wp2_with fail
      go_region
      all_goals
        go_wp2
        have hL := HL.out
        refine ⟨⟨i + 1, by omega, by go_num, HS.out.1, A' ++ [(Eo.mk xb fb)], X', M' ++ [(Eo.mk xa fa)], Y', HS.out.2, by rw [HT.out]; simp, ?_, ?_, ?_, ?_⟩, by simp [intOf]; omega⟩
      all_goals (try simp only [List.length_append, List.length_cons, List.length_nil])
      all_goals omega
    · have h0 : i = n := by omega
      have hX0 : X' = [] := List.length_eq_zero_iff.1 (by omega)
      have hY0 : Y' = [] := List.length_eq_zero_iff.1 (by omega)
      rw [hX0, hY0] at hT hrr
      rw [← hT] at hrr
      have HR := Lib.hid hrr
      clear hT hA hM hX hY hrr hr hX0 hY0
      go_wp2
      go_end0
      exact ⟨rfl, hg, HR.out⟩

/-- Two ranges that touch change places. -/
theorem rotate (g cap N a m b : Nat) (A X Y Z : List Eo) (F : Value) (w : World) (hN : (A ++ X ++ Y ++ Z).length = N) (hn : N ≤ 1000000) (ha : A.length = a) (hm : a + X.length = m) (hb : m + Y.length = b) (hX0 : 0 < X.length) (hY0 : 0 < Y.length) (hr : RowE g cap (A ++ X ++ Y ++ Z) w) :
    Calls Tryz.prog 192 #[.slice (some ⟨g, 0, none⟩) N cap, .int .i64 a, .int .i64 m, .int .i64 b, F] w fun e w' =>
      e = .returned (.tuple #[]) ∧ w.grownBy w' (some g) ∧ RowE g cap (A ++ Y ++ X ++ Z) w' := by
  have hbN : b ≤ N := by simp at hN; omega
  have ham : a < m := by omega
  have hmb : m < b := by omega
  have hlen : ∀ A' X' Y' Z' : List Eo, A ++ Y ++ X ++ Z = A' ++ Y' ++ X' ++ Z' → (A' ++ X' ++ Y' ++ Z').length = N := fun A' X' Y' Z' h => by
    have := congrArg List.length h
    simp only [List.length_append] at this hN ⊢
    omega
  have HL := Lib.hid hlen
  have HH := Lib.hid (show _ from And.intro hN (And.intro ha (And.intro hm hb)))
  clear hN ha hb hm hlen hX0 hY0
  go_enter Tryz.func192, Tryz.ntmps192
  go_wp2
  go_loopw [10, 11] (fun iv jv wr => ∃ i j : Nat, 0 < i ∧ 0 < j ∧ i ≤ m ∧ m + j ≤ b ∧ iv = .int .i64 i ∧ jv = .int .i64 j ∧ w.grownBy wr (some g) ∧ ∃ A' X' Y' Z' : List Eo, RowE g cap (A' ++ X' ++ Y' ++ Z') wr ∧ A ++ Y ++ X ++ Z = A' ++ Y' ++ X' ++ Z' ∧ A'.length + i = m ∧ X'.length = i ∧ Y'.length = j) (fun iv jv _ => (intOf iv).toNat + (intOf jv).toNat)
  case atStart =>
    refine ⟨m - a, b - m, by omega, by omega, by omega, by omega, by congr 1; omega, by congr 1; omega, World.grownBy.refl _ _, A, X, Y, Z, hr, rfl, ?_, ?_, ?_⟩
    all_goals (have := HH.out; omega)
  case round =>
    obtain ⟨i, j, h0i, h0j, hi, hj, rfl, rfl, hg, A', X', Y', Z', hrr, hT, hA, hX, hY⟩ := hrel
    have w1 : IntKind.i64.wrap ((m : Int) - i) = ((m - i : Nat) : Int) := by rw [IntWalk.i64_in _ (by omega)]; omega
    by_cases he : i = j
    · subst he
      have hc := fun W hW => swapRange g cap N (m - i) m i A' X' [] Y' Z' F W (by simpa using HL.out _ _ _ _ hT) hn (by omega) (by simp; omega) hX hY hW
      simp only [List.append_nil] at hc
      have HC := Lib.hid (hc wr hrr)
      have HT := Lib.hid hT
      clear hc hrr hr hT hA hX hY
      go_wp2_with fail
      refine (HC.out).mono ?_
      rintro e w1 ⟨rfl, hg1, hr1⟩
      have HR := Lib.hid hr1
      clear hr1
      go_wp2
      go_end0
      exact ⟨rfl, gTrans hg hg1, by rw [HT.out]; exact HR.out⟩
    · have hne : ((i : Int) != j) = true := by simp; omega
      rcases Nat.lt_or_gt_of_ne he with h | h
      · -- i < j
        have w2 : IntKind.i64.wrap ((j : Int) - i) = ((j - i : Nat) : Int) := by rw [IntWalk.i64_in _ (by omega)]; omega
        have w3 : IntKind.i64.wrap ((m : Int) + j) = (m : Int) + j := IntWalk.i64_in _ (by omega)
        have w4 : IntKind.i64.wrap ((m : Int) + j - i) = ((m + j - i : Nat) : Int) := by rw [IntWalk.i64_in _ (by omega)]; omega
        have e1 : Y' = Y'.take (j - i) ++ Y'.drop (j - i) := (List.take_append_drop _ _).symm
        have l1 : (Y'.take (j - i)).length = j - i := by rw [List.length_take]; omega
        have l2 : (Y'.drop (j - i)).length = i := by rw [List.length_drop]; omega
        generalize Y'.take (j - i) = Y1 at e1 l1
        generalize Y'.drop (j - i) = Y2 at e1 l2
        subst e1
        have hc := swapRange g cap N (m - i) (m + j - i) i A' X' Y1 Y2 Z' F wr (by have := HL.out _ _ _ _ hT; simp only [List.length_append] at this ⊢; omega) hn (by omega) (by omega) hX l2 (by simpa using hrr)
        have HC := Lib.hid hc
        have HT := Lib.hid (And.intro hT (And.intro hA (And.intro hX (And.intro l1 l2))))
        clear hc hrr hr hT hA hX hY he l1 l2
        go_wp2_with fail
        refine (HC.out).mono ?_
        rintro e w1 ⟨rfl, hg1, hr1⟩
        have HR := Lib.hid hr1
        clear hr1
        go_wp2
        refine ⟨⟨i, j - i, by omega, by omega, by omega, by omega, rfl, by go_num, gTrans hg hg1, A', Y2, Y1, X' ++ Z', by simpa using HR.out, by rw [HT.out.1]; simp, ?_, ?_, ?_⟩, by simp [intOf]; omega⟩
        all_goals (have := HT.out.2; omega)
      · -- j < i
        have w2 : IntKind.i64.wrap ((i : Int) - j) = ((i - j : Nat) : Int) := by rw [IntWalk.i64_in _ (by omega)]; omega
        have e1 : X' = X'.take j ++ X'.drop j := (List.take_append_drop _ _).symm
        have l1 : (X'.take j).length = j := by rw [List.length_take]; omega
        have l2 : (X'.drop j).length = i - j := by rw [List.length_drop]; omega
        generalize X'.take j = X1 at e1 l1
        generalize X'.drop j = X2 at e1 l2
        subst e1
        have hc := swapRange g cap N (m - i) m j A' X1 X2 Y' Z' F wr (by have := HL.out _ _ _ _ hT; simp only [List.length_append] at this ⊢; omega) hn (by omega) (by omega) l1 hY (by simpa using hrr)
        have HC := Lib.hid hc
        have HT := Lib.hid (And.intro hT (And.intro hA (And.intro hY (And.intro l1 l2))))
        clear hc hrr hr hT hA hX hY he l1 l2
        go_wp2_with fail
        refine (HC.out).mono ?_
        rintro e w1 ⟨rfl, hg1, hr1⟩
        have HR := Lib.hid hr1
        clear hr1
        go_wp2
        refine ⟨⟨i - j, j, by omega, by omega, by omega, by omega, by go_num, rfl, gTrans hg hg1, A' ++ Y', X2, X1, Z', by simpa using HR.out, by rw [HT.out.1]; simp, ?_, ?_, ?_⟩, by simp [intOf]; omega⟩
        all_goals (have := HT.out.2; (try simp only [List.length_append]); omega)
end Go.Proofs.YtgepbkldgnjpfaaGreatDoor.Ao

namespace Go.Proofs.YtgepbkldgnjpfaaGreatDoor.Ao
open Go.RowKit Go.Sort Go.BigFrame

theorem ins_done {S1 L1 L2 : List Eo} {x : Eo} (hL : L1 ++ L2 = ss lt S1) (h2 : ∀ y ∈ L2, lt x y = true) (h1 : L1 = [] ∨ ∃ L z, L1 = L ++ [z] ∧ lt x z = false) : L1 ++ x :: L2 = ss lt (S1 ++ [x]) := by
  have hs : Srt lt L1 := by
    have := srt_ss lt_swk S1
    rw [← hL] at this
    exact (List.pairwise_append.1 this).1
  have h3 : ∀ l ∈ L1, lt x l = false := by
    rcases h1 with rfl | ⟨L, z, rfl, hz⟩
    · intro l hl; cases hl
    · intro l hl
      rcases List.mem_append.1 hl with h4 | h4
      · exact lt_swk.tr _ _ _ ((List.pairwise_append.1 hs).2.2 l h4 z (by simp)) hz
      · rw [List.mem_singleton.1 h4]; exact hz
  have e1 := mg_split (lt := lt) L1 L2 [] [x] (fun l hl y hy => by rw [List.mem_singleton.1 hy]; exact h3 l hl) (fun y hy => by cases hy)
  have e2 := mg_split (lt := lt) [] L2 [x] [] (fun y hy => by cases hy) (fun y hy l hl => by rw [List.mem_singleton.1 hy]; exact h2 l hl)
  simp only [List.nil_append, List.append_nil, nil_mg, mg_nil] at e1 e2
  rw [← ss_snoc lt_swk, ← hL, e1, e2]
  simp

theorem Rw.grow {α : Type} {enc : α → List Value} {k : Nat} {e : TypeId} {g cap : Nat} {l : List α} {w : World} (h : Rw enc k e g cap l w) (os : Array Obj) : Rw enc k e g cap l (Sort.grow w os) := by
  have hl := h.lt
  obtain ⟨cur, hc, hr⟩ := h
  exact ⟨cur, (heap_grow_old w os hl).trans hc, hr⟩
theorem gGrow {g : Nat} {a b : World} (h : a.grownBy b (some g)) (n : Nat) (os : Array Obj) : a.grownBy (Sort.grow (b.drewN n) os) (some g) :=
  ⟨h.os, h.tape, h.output, by rw [size_grow]; exact Nat.le_trans h.size (Nat.le_add_right _ _), fun i hi hn => (heap_grow_old _ os (show i < (b.drewN n).heap.size from Nat.lt_of_lt_of_le hi h.size)).trans (h.block i hi hn)⟩

set_option maxRecDepth 100000 in
set_option maxHeartbeats 8000000 in
theorem insSort (g cap N a b : Nat) (A S Z : List Eo) (w : World) (hN : (A ++ S ++ Z).length = N) (hn : N ≤ 1000000) (ha : A.length = a) (hb : a + S.length = b) (hr : RowE g cap (A ++ S ++ Z) w) :
    Calls Tryz.prog 175 #[.slice (some ⟨g, 0, none⟩) N cap, .int .i64 a, .int .i64 b, .func (.func 107) #[] #[]] w fun e w' =>
      e = .returned (.tuple #[]) ∧ w.grownBy w' (some g) ∧ RowE g cap (A ++ ss lt S ++ Z) w' := by
  have hbN : b ≤ N := by simp at hN; omega
  have hab : a ≤ b := by omega
  have HH := Lib.hid (And.intro ha hb)
  clear hN ha hb
  go_enter Tryz.func175, Tryz.ntmps175
  go_wp2
  go_loopw [8] (fun iv wr => ∃ i : Nat, a < i ∧ i ≤ b + 1 ∧ iv = .int .i64 i ∧ w.grownBy wr (some g) ∧ ∃ S1 S2 : List Eo, RowE g cap (A ++ ss lt S1 ++ S2 ++ Z) wr ∧ S = S1 ++ S2 ∧ (i = a + S1.length ∧ i ≤ b ∨ S2 = [] ∧ b ≤ i)) (fun iv _ => b + 1 - (intOf iv).toNat)
  case atStart =>
    refine ⟨a + 1, by omega, by omega, by go_num, World.grownBy.refl _ _, ?_⟩
    cases S with
    | nil => exact ⟨[], [], by simpa [ss] using hr, rfl, .inr ⟨rfl, by have := HH.out; simp at this; omega⟩⟩
    | cons s S => exact ⟨[s], S, by simpa [ss_one] using hr, rfl, .inl ⟨rfl, by have := HH.out; simp at this; omega⟩⟩
  case round =>
    obtain ⟨i, hai, hib, rfl, hg, S1, S2, hrr, hS, hi⟩ := hrel
    by_cases hlt : i < b
    · have hL : a + S1.length = i ∧ i + S2.length = b := by
        have h1 := HH.out.2
        rw [hS, List.length_append] at h1
        rcases hi with ⟨h2, h3⟩ | ⟨h2, h3⟩ <;> omega
      obtain ⟨⟨xa, fa⟩, S2, rfl⟩ := List.exists_cons_of_length_pos (show 0 < S2.length by omega)
      have HS0 := Lib.hid hS
      have HR := Lib.hid hrr
      have HL := Lib.hid hL
      clear hi hS hrr hr hL
      obtain ⟨wo, rfl⟩ : ∃ wo : World, wo = wr := ⟨_, rfl⟩
      go_wp2
      go_loopw [9] (fun jv wr => ∃ j : Nat, a ≤ j ∧ j ≤ i ∧ jv = .int .i64 j ∧ w.grownBy wr (some g) ∧ ∃ L1 L2 : List Eo, RowE g cap (A ++ L1 ++ (Eo.mk xa fa) :: (L2 ++ S2 ++ Z)) wr ∧ L1 ++ L2 = ss lt S1 ∧ j = a + L1.length ∧ ∀ y ∈ L2, lt (Eo.mk xa fa) y = true) (fun jv _ => (intOf jv).toNat)
      case atStart => exact ⟨i, by omega, by omega, rfl, hg, ss lt S1, [], by simpa using HR.out, by simp, by rw [ss_length]; have := HL.out; omega, by simp⟩
      case round =>
        obtain ⟨j, haj, hji, rfl, hg2, L1, L2, hr2, hL12, hj, hx⟩ := hrel
        have HX := Lib.hid (And.intro hL12 hx)
        clear hL12 hx
        have fin : (L1 = [] ∨ ∃ L z, L1 = L ++ [z] ∧ lt (Eo.mk xa fa) z = false) → ∀ w2, RowE g cap (A ++ L1 ++ (Eo.mk xa fa) :: (L2 ++ S2 ++ Z)) w2 → RowE g cap (A ++ ss lt (S1 ++ [(Eo.mk xa fa)]) ++ S2 ++ Z) w2 := fun h w2 hw => by
          rw [← ins_done HX.out.1 HX.out.2 h]; simpa using hw
        have FIN := Lib.hid fin
        clear fin
        by_cases hja : a < j
        · have hgt : decide ((j : Int) > (a : Int)) = true := by simp; omega
          have hgt2 : decide ((a : Int) < (j : Int)) = true := by simp; omega
          obtain ⟨L1, ⟨xb, fb⟩, rfl⟩ : ∃ L z, L1 = L ++ [z] := by
            rcases List.eq_nil_or_concat L1 with h | ⟨L, z, h⟩
            · subst h; rw [List.length_nil] at hj; omega
            · exact ⟨L, z, by rw [h, List.concat_eq_append]⟩
          rw [List.length_append, List.length_singleton] at hj
          have hr3 : RowE g cap ((A ++ L1) ++ (Eo.mk xb fb) :: ([] ++ (Eo.mk xa fa) :: (L2 ++ S2 ++ Z))) wr := by simpa using hr2
          have hAL : (A ++ L1).length = j - 1 := by have := HH.out; simp; omega
          have gy := get_mid (A ++ L1) ([] ++ (Eo.mk xa fa) :: (L2 ++ S2 ++ Z)) (Eo.mk xb fb) hAL
          have gx : ((A ++ L1) ++ (Eo.mk xb fb) :: ([] ++ (Eo.mk xa fa) :: (L2 ++ S2 ++ Z)))[j]? = some (Eo.mk xa fa) := by
            have := get_mid ((A ++ L1) ++ [(Eo.mk xb fb)]) (L2 ++ S2 ++ Z) (Eo.mk xa fa) (n := j) (by rw [List.length_append, hAL]; simp; omega)
            simpa using this
          obtain ⟨pa, hpa⟩ : ∃ p, j * 6 = p := ⟨_, rfl⟩
          obtain ⟨pb, hpb⟩ : ∃ p, (j - 1) * 6 = p := ⟨_, rfl⟩
          have hgw := hr3.lt
          have c1 : ∀ n os, (Sort.grow (wr.drewN n) os).cell? ⟨g, pa, none⟩ = some (.string fa.1.co) := fun n os => cell_grown hgw (hpa ▸ Rw.cell hr3 gx (j := 0) rfl) n os
          have c2 : ∀ n os, (Sort.grow (wr.drewN n) os).cell? ⟨g, pa + 1, none⟩ = some (.int .i64 fa.1.ra) := fun n os => cell_grown hgw (hpa ▸ Rw.cell hr3 gx (j := 1) rfl) n os
          have c3 : ∀ n os, (Sort.grow (wr.drewN n) os).cell? ⟨g, pa + 2, none⟩ = some (.int .i64 fa.1.rt) := fun n os => cell_grown hgw (hpa ▸ Rw.cell hr3 gx (j := 2) rfl) n os
          have c4 : ∀ n os, (Sort.grow (wr.drewN n) os).cell? ⟨g, pa + 3, none⟩ = some (.int .i64 fa.1.fx) := fun n os => cell_grown hgw (hpa ▸ Rw.cell hr3 gx (j := 3) rfl) n os
          have c5 : ∀ n os, (Sort.grow (wr.drewN n) os).cell? ⟨g, pa + 4, none⟩ = some (.int .i64 fa.1.pr) := fun n os => cell_grown hgw (hpa ▸ Rw.cell hr3 gx (j := 4) rfl) n os
          have c6 : ∀ n os, (Sort.grow (wr.drewN n) os).cell? ⟨g, pa + 5, none⟩ = some (.int .i64 fa.1.tt) := fun n os => cell_grown hgw (hpa ▸ Rw.cell hr3 gx (j := 5) rfl) n os
          have c7 : ∀ n os, (Sort.grow (wr.drewN n) os).cell? ⟨g, pb, none⟩ = some (.string fb.1.co) := fun n os => cell_grown hgw (hpb ▸ Rw.cell hr3 gy (j := 0) rfl) n os
          have c8 : ∀ n os, (Sort.grow (wr.drewN n) os).cell? ⟨g, pb + 1, none⟩ = some (.int .i64 fb.1.ra) := fun n os => cell_grown hgw (hpb ▸ Rw.cell hr3 gy (j := 1) rfl) n os
          have c9 : ∀ n os, (Sort.grow (wr.drewN n) os).cell? ⟨g, pb + 2, none⟩ = some (.int .i64 fb.1.rt) := fun n os => cell_grown hgw (hpb ▸ Rw.cell hr3 gy (j := 2) rfl) n os
          have c10 : ∀ n os, (Sort.grow (wr.drewN n) os).cell? ⟨g, pb + 3, none⟩ = some (.int .i64 fb.1.fx) := fun n os => cell_grown hgw (hpb ▸ Rw.cell hr3 gy (j := 3) rfl) n os
          have c11 : ∀ n os, (Sort.grow (wr.drewN n) os).cell? ⟨g, pb + 4, none⟩ = some (.int .i64 fb.1.pr) := fun n os => cell_grown hgw (hpb ▸ Rw.cell hr3 gy (j := 4) rfl) n os
          have c12 : ∀ n os, (Sort.grow (wr.drewN n) os).cell? ⟨g, pb + 5, none⟩ = some (.int .i64 fb.1.tt) := fun n os => cell_grown hgw (hpb ▸ Rw.cell hr3 gy (j := 5) rfl) n os
          have HJ := Lib.hid hj
          have HSW := Lib.hid hr3
          have HJ2 := Lib.hid hAL
          have GX := Lib.hid gx
          have GY := Lib.hid gy
          clear hj hAL gx gy hr2 hr3
          have w1 : IntKind.i64.wrap ((j : Int) - 1) = (j : Int) - 1 := IntWalk.i64_in _ (by omega)
          have w2 : ((j : Int) - 1).toNat = j - 1 := by omega
          have hw3 : (0 : Int) ≤ (j : Int) - 1 := by omega
          have hw4 : (j : Int) - 1 < (N : Int) := by omega
          have hw5 : (j : Int) < (N : Int) := by omega
          go_wp2_with fail
          refine wp_region_quiet_grown (by kernel_rfl) (by kernel_rfl) ?_
          repeat (go_big_quiet_step (refine Calls.grown_of (cmpK' xa xb fa fb _)))
          refine wpQuiet_nil ?_
          intro _ hw'
          obtain ⟨⟨nq, osq⟩, hw''⟩ := hw'
          subst hw''
          have hg3 := gGrow hg2 nq osq
          have hr4 : RowE g cap _ _ := Rw.grow (HSW.out.drewN nq) osq
          have HR4 := Lib.hid hr4
          clear hr4
          generalize Sort.grow (wr.drewN nq) osq = wq at *
          obtain ⟨hc1, hc2⟩ := cf_neg xa xb
          generalize cf xa xb = cc at *
          by_cases hlt2 : xa < xb
          · have hcc := hc1 hlt2
            clear hc1 hc2
            obtain ⟨wd, hwd⟩ : ∃ x, wq.drew = x := ⟨_, rfl⟩
            have hrd : RowE g cap ((A ++ L1) ++ (Eo.mk xb fb) :: ([] ++ (Eo.mk xa fa) :: (L2 ++ S2 ++ Z))) wd := by rw [← hwd]; exact HR4.out
            obtain ⟨w1, w2, hs⟩ := hrd.swpUp (i := j - 1) (j := j) HJ2.out (by simp; omega) hpa hpb
            have hgd : w.grownBy wd (some g) := by rw [← hwd]; exact gDrew hg3
            have sa0 : wd.cell? ⟨g, pa, none⟩ = some (.string fa.1.co) := hs.ca 0 _ rfl
            have sa1 : wd.cell? ⟨g, pa + 1, none⟩ = some (.int .i64 fa.1.ra) := hs.ca 1 _ rfl
            have sa2 : wd.cell? ⟨g, pa + 2, none⟩ = some (.int .i64 fa.1.rt) := hs.ca 2 _ rfl
            have sa3 : wd.cell? ⟨g, pa + 3, none⟩ = some (.int .i64 fa.1.fx) := hs.ca 3 _ rfl
            have sa4 : wd.cell? ⟨g, pa + 4, none⟩ = some (.int .i64 fa.1.pr) := hs.ca 4 _ rfl
            have sa5 : wd.cell? ⟨g, pa + 5, none⟩ = some (.int .i64 fa.1.tt) := hs.ca 5 _ rfl
            have sb0 : wd.cell? ⟨g, pb, none⟩ = some (.string fb.1.co) := hs.cb 0 _ rfl
            have sb1 : wd.cell? ⟨g, pb + 1, none⟩ = some (.int .i64 fb.1.ra) := hs.cb 1 _ rfl
            have sb2 : wd.cell? ⟨g, pb + 2, none⟩ = some (.int .i64 fb.1.rt) := hs.cb 2 _ rfl
            have sb3 : wd.cell? ⟨g, pb + 3, none⟩ = some (.int .i64 fb.1.fx) := hs.cb 3 _ rfl
            have sb4 : wd.cell? ⟨g, pb + 4, none⟩ = some (.int .i64 fb.1.pr) := hs.cb 4 _ rfl
            have sb5 : wd.cell? ⟨g, pb + 5, none⟩ = some (.int .i64 fb.1.tt) := hs.cb 5 _ rfl
            have fa0 : wd.frozen? ⟨g, pa, none⟩ = false := hs.fz _
            have fa1 : wd.frozen? ⟨g, pa + 1, none⟩ = false := hs.fz _
            have fa2 : wd.frozen? ⟨g, pa + 2, none⟩ = false := hs.fz _
            have fa3 : wd.frozen? ⟨g, pa + 3, none⟩ = false := hs.fz _
            have fa4 : wd.frozen? ⟨g, pa + 4, none⟩ = false := hs.fz _
            have fa5 : wd.frozen? ⟨g, pa + 5, none⟩ = false := hs.fz _
            obtain ⟨zb0, sc0⟩ : ∃ u, w1.cell? ⟨g, pb, none⟩ = some u := hs.c1 0 (by omega)
            have fb0 : w1.frozen? ⟨g, pb, none⟩ = false := hs.f1 _
            obtain ⟨zb1, sc1⟩ : ∃ u, w1.cell? ⟨g, pb + 1, none⟩ = some u := hs.c1 1 (by omega)
            have fb1 : w1.frozen? ⟨g, pb + 1, none⟩ = false := hs.f1 _
            obtain ⟨zb2, sc2⟩ : ∃ u, w1.cell? ⟨g, pb + 2, none⟩ = some u := hs.c1 2 (by omega)
            have fb2 : w1.frozen? ⟨g, pb + 2, none⟩ = false := hs.f1 _
            obtain ⟨zb3, sc3⟩ : ∃ u, w1.cell? ⟨g, pb + 3, none⟩ = some u := hs.c1 3 (by omega)
            have fb3 : w1.frozen? ⟨g, pb + 3, none⟩ = false := hs.f1 _
            obtain ⟨zb4, sc4⟩ : ∃ u, w1.cell? ⟨g, pb + 4, none⟩ = some u := hs.c1 4 (by omega)
            have fb4 : w1.frozen? ⟨g, pb + 4, none⟩ = false := hs.f1 _
            obtain ⟨zb5, sc5⟩ : ∃ u, w1.cell? ⟨g, pb + 5, none⟩ = some u := hs.c1 5 (by omega)
            have fb5 : w1.frozen? ⟨g, pb + 5, none⟩ = false := hs.f1 _
            have he1 : (((((wd.setCell ⟨g, pa, none⟩ (.string fb.1.co)).setCell ⟨g, pa + 1, none⟩ (.int .i64 fb.1.ra)).setCell ⟨g, pa + 2, none⟩ (.int .i64 fb.1.rt)).setCell ⟨g, pa + 3, none⟩ (.int .i64 fb.1.fx)).setCell ⟨g, pa + 4, none⟩ (.int .i64 fb.1.pr)).setCell ⟨g, pa + 5, none⟩ (.int .i64 fb.1.tt) = w1 := hs.e1
            have he2 : (((((w1.setCell ⟨g, pb, none⟩ (.string fa.1.co)).setCell ⟨g, pb + 1, none⟩ (.int .i64 fa.1.ra)).setCell ⟨g, pb + 2, none⟩ (.int .i64 fa.1.rt)).setCell ⟨g, pb + 3, none⟩ (.int .i64 fa.1.fx)).setCell ⟨g, pb + 4, none⟩ (.int .i64 fa.1.pr)).setCell ⟨g, pb + 5, none⟩ (.int .i64 fa.1.tt) = w2 := hs.e2
            have HS := Lib.hid (And.intro (gTrans hgd hs.gr) hs.ro)
            clear hs hrd hgd c1 c2 c3 c4 c5 c6 c7 c8 c9 c10 c11 c12
            go_wp2_with fail
            go_region
            all_goals
              go_wp2
              refine ⟨⟨j - 1, by omega, by omega, by go_num, HS.out.1, L1, (Eo.mk xb fb) :: L2, by simpa using HS.out.2, by simpa using HX.out.1, by have := HJ.out; omega, ?_⟩, by simp [intOf]; omega⟩
              intro y hy
              rcases List.mem_cons.1 hy with rfl | hy
              · exact decide_eq_true hlt2
              · exact HX.out.2 _ hy
          · have hcc := hc2 hlt2
            clear hc1 hc2
            clear c1 c2 c3 c4 c5 c6 c7 c8 c9 c10 c11 c12
            go_wp2
            refine ⟨⟨i + 1, by omega, by omega, by go_num, hg3, S1 ++ [(Eo.mk xa fa)], S2, FIN.out (.inr ⟨L1, _, rfl, decide_eq_false hlt2⟩) _ (by simpa using HR4.out), by rw [HS0.out]; simp, .inl ⟨?_, by omega⟩⟩, by simp [intOf]; omega⟩
            have := HL.out; simp; omega
        · have hgt : decide ((j : Int) > (a : Int)) = false := by simp; omega
          have hgt2 : decide ((a : Int) < (j : Int)) = false := by simp; omega
          have hL0 : L1 = [] := List.length_eq_zero_iff.1 (by omega)
          have HF := Lib.hid (FIN.out (.inl hL0) wr hr2)
          have hg3 := gGrow hg2 0 #[]
          clear hj hr2 hL0
          go_wp2_with fail
          go_quiet (fail)
          go_wp2
          refine ⟨⟨i + 1, by omega, by omega, by go_num, ?_, S1 ++ [(Eo.mk xa fa)], S2, HF.out.drewN _, by rw [HS0.out]; simp, .inl ⟨?_, by omega⟩⟩, by simp [intOf]; omega⟩
          · have := gGrow hg2 nq #[]; rwa [grow_empty] at this
          · have := HL.out; simp; omega
    · have h2 : S2 = [] := by
        rcases hi with ⟨h2, h3⟩ | ⟨h2, h3⟩
        · have h1 := HH.out.2
          rw [hS, List.length_append] at h1
          exact List.length_eq_zero_iff.1 (by omega)
        · exact h2
      subst h2
      rw [List.append_nil] at hS hrr
      have HR := Lib.hid (hS ▸ hrr)
      clear hS hrr hr hi
      go_wp2
      go_end0
      exact ⟨rfl, hg, HR.out⟩
end Go.Proofs.YtgepbkldgnjpfaaGreatDoor.Ao

namespace Go.Proofs.YtgepbkldgnjpfaaGreatDoor.Ao
open Go.RowKit Go.Sort Go.BigFrame

/-- The key of element t. -/
def ke (l : List Eo) (t : Nat) : Int := (l[t]?.map (·.1)).getD 0
theorem ke_some {l : List Eo} {t : Nat} {x : Eo} (h : l[t]? = some x) : ke l t = x.1 := by simp [ke, h]
theorem ke_le {l : List Eo} (h : Srt lt l) {i j : Nat} (hij : i ≤ j) (hj : j < l.length) : ke l i ≤ ke l j := by
  obtain ⟨x, hx⟩ : ∃ x, l[i]? = some x := ⟨_, List.getElem?_eq_getElem (by omega)⟩
  obtain ⟨y, hy⟩ : ∃ x, l[j]? = some x := ⟨_, List.getElem?_eq_getElem hj⟩
  rw [ke_some hx, ke_some hy]
  rcases Nat.lt_or_eq_of_le hij with h1 | h1
  · have := List.pairwise_iff_getElem.1 h i j (by omega) hj h1
    rw [List.getElem?_eq_getElem (by omega)] at hx hy
    cases hx; cases hy
    simpa [lt] using this
  · subst h1; rw [hx] at hy; cases hy; exact Int.le_refl _
theorem ke_app {P Q S : List Eo} {p t : Nat} (hp : P.length = p) (ht : t < Q.length) : ke (P ++ Q ++ S) (p + t) = ke Q t := by
  subst hp
  unfold ke
  rw [List.append_assoc, List.getElem?_append_right (by omega), Nat.add_sub_cancel_left, List.getElem?_append_left ht]
theorem mem_take_ke {l : List Eo} {n : Nat} {y : Eo} (h : y ∈ l.take n) : ∃ t, t < n ∧ t < l.length ∧ ke l t = y.1 := by
  obtain ⟨t, ht, rfl⟩ := List.mem_iff_getElem.1 h
  rw [List.length_take] at ht
  refine ⟨t, by omega, by omega, ?_⟩
  rw [List.getElem_take]
  exact ke_some (List.getElem?_eq_getElem (by omega))
theorem mem_drop_ke {l : List Eo} {n : Nat} {y : Eo} (h : y ∈ l.drop n) : ∃ t, n ≤ t ∧ t < l.length ∧ ke l t = y.1 := by
  obtain ⟨t, ht, rfl⟩ := List.mem_iff_getElem.1 h
  rw [List.length_drop] at ht
  refine ⟨n + t, by omega, by omega, ?_⟩
  rw [List.getElem_drop]
  exact ke_some (List.getElem?_eq_getElem (by omega))

/-- Two sorted ranges that touch, in a row. -/
structure Two (D A L R Z : List Eo) (a m b N : Nat) : Prop where
  eq : D = A ++ L ++ R ++ Z
  len : D.length = N
  la : A.length = a
  lm : a + L.length = m
  lb : m + R.length = b
  sl : Srt lt L
  sr : Srt lt R
section
variable {D A L R Z : List Eo} {a m b N : Nat}
theorem Two.keL (h : Two D A L R Z a m b N) {t : Nat} (ht : t < L.length) : ke D (a + t) = ke L t := by
  rw [h.eq, List.append_assoc (A ++ L) R Z]
  exact ke_app h.la ht
theorem Two.keR (h : Two D A L R Z a m b N) {t : Nat} (ht : t < R.length) : ke D (m + t) = ke R t := by
  rw [h.eq]
  exact ke_app (by rw [List.length_append, h.la, h.lm]) ht
theorem Two.leL (h : Two D A L R Z a m b N) {i j : Nat} (hi : a ≤ i) (hij : i ≤ j) (hj : j < m) : ke D i ≤ ke D j := by
  have h1 := h.keL (t := i - a) (by have := h.lm; omega)
  have h2 := h.keL (t := j - a) (by have := h.lm; omega)
  rw [show a + (i - a) = i by omega] at h1
  rw [show a + (j - a) = j by omega] at h2
  rw [h1, h2]
  exact ke_le h.sl (by omega) (by have := h.lm; omega)
theorem Two.leR (h : Two D A L R Z a m b N) {i j : Nat} (hi : m ≤ i) (hij : i ≤ j) (hj : j < b) : ke D i ≤ ke D j := by
  have h1 := h.keR (t := i - m) (by have := h.lb; omega)
  have h2 := h.keR (t := j - m) (by have := h.lb; omega)
  rw [show m + (i - m) = i by omega] at h1
  rw [show m + (j - m) = j by omega] at h2
  rw [h1, h2]
  exact ke_le h.sr (by omega) (by have := h.lb; omega)
theorem Two.bn (h : Two D A L R Z a m b N) : b ≤ N := by
  have := congrArg List.length h.eq
  simp only [List.length_append] at this
  have h1 := h.len; have h2 := h.la; have h3 := h.lm; have h4 := h.lb
  omega
/-- Where both are cut so that the fronts lie ahead of the backs. -/
theorem Two.cut (h : Two D A L R Z a m b N) (s t : Nat) (ha : a ≤ s) (hm : m ≤ t) (h1 : ∀ i j, a ≤ i → i < s → t ≤ j → j < b → ke D i ≤ ke D j) (h2 : ∀ i j, s ≤ i → i < m → m ≤ j → j < t → ke D j < ke D i) :
    mg lt L R = mg lt (L.take (s - a)) (R.take (t - m)) ++ mg lt (L.drop (s - a)) (R.drop (t - m)) := by
  have hlm := h.lm
  have hlb := h.lb
  conv => lhs; rw [← List.take_append_drop (s - a) L, ← List.take_append_drop (t - m) R]
  refine mg_split _ _ _ _ (fun x hx y hy => ?_) (fun y hy x hx => ?_)
  · obtain ⟨i, hi1, hi2, hi3⟩ := mem_take_ke hx
    obtain ⟨j, hj1, hj2, hj3⟩ := mem_drop_ke hy
    have := h1 (a + i) (m + j) (by omega) (by omega) (by omega) (by omega)
    rw [h.keL hi2, h.keR hj2, hi3, hj3] at this
    exact decide_eq_false (by omega)
  · obtain ⟨i, hi1, hi2, hi3⟩ := mem_drop_ke hx
    obtain ⟨j, hj1, hj2, hj3⟩ := mem_take_ke hy
    have := h2 (a + i) (m + j) (by omega) (by omega) (by omega) (by omega)
    rw [h.keL hi2, h.keR hj2, hi3, hj3] at this
    exact decide_eq_true (by omega)
end

theorem mg_one {x : Eo} {R : List Eo} (h : ∀ y ∈ R, lt y x = false) : mg lt [x] R = x :: R := by
  have := mg_split (lt := lt) [x] [] [] R (fun l hl y hy => by rw [List.mem_singleton.1 hl]; exact h y hy) (fun y hy => by cases hy)
  simpa using this
theorem mg_last {y : Eo} {L : List Eo} (h : ∀ x ∈ L, lt y x = true) : mg lt L [y] = y :: L := by
  have := mg_split (lt := lt) [] L [y] [] (fun x hx => by cases hx) (fun x hx l hl => by rw [List.mem_singleton.1 hx]; exact h l hl)
  simpa using this
theorem Two.one {D A L R Z : List Eo} {a m b N : Nat} (h : Two D A L R Z a m b N) {x : Eo} {i : Nat} (hx : D[a]? = some x) (h1 : m = a + 1) (hmi : m ≤ i) (hib : i ≤ b) (hlo : ∀ t, m ≤ t → t < i → ke D t < x.1) (hhi : ∀ t, i ≤ t → t < b → x.1 ≤ ke D t) :
    ∃ R1 R2, R = R1 ++ R2 ∧ R1.length + m = i ∧ D = A ++ x :: (R1 ++ R2 ++ Z) ∧ mg lt L R = R1 ++ x :: R2 := by
  have hL : L = [x] := by
    have h2 := h.lm
    rcases L with _ | ⟨y, _ | ⟨z, L⟩⟩
    · simp at h2; omega
    · have h3 := hx
      rw [h.eq, show A ++ [y] ++ R ++ Z = A ++ y :: (R ++ Z) by simp, get_mid _ _ _ h.la] at h3
      cases h3; rfl
    · simp at h2; omega
  have hc := h.cut a i (Nat.le_refl _) hmi (fun _ _ h1 h2 => by omega) (fun i' j' h2 h3 h4 h5 => by
    have : i' = a := by omega
    subst this
    rw [ke_some hx]; exact hlo _ h4 h5)
  refine ⟨R.take (i - m), R.drop (i - m), (List.take_append_drop _ _).symm, by rw [List.length_take]; have := h.lb; omega, ?_, ?_⟩
  · rw [List.take_append_drop, h.eq, hL]; simp
  · rw [hc, hL, Nat.sub_self, List.take_zero, List.drop_zero, mg_nil, mg_one]
    intro y hy
    obtain ⟨t, ht1, ht2, ht3⟩ := mem_drop_ke hy
    have h6 := hhi (m + t) (by omega) (by have := h.lb; omega)
    rw [h.keR ht2, ht3] at h6
    exact decide_eq_false (by omega)

set_option maxHeartbeats 8000000 in
set_option maxRecDepth 100000 in
theorem symMerge_one (g cap N a m b : Nat) (D A L R Z : List Eo) (w : World) (h2 : Two D A L R Z a m b N) (hn : N ≤ 1000000) (h1 : m = a + 1) (hmb : m < b) (hr : RowE g cap D w) :
    Calls Tryz.prog 176 #[.slice (some ⟨g, 0, none⟩) N cap, .int .i64 a, .int .i64 m, .int .i64 b, .func (.func 107) #[] #[]] w fun e w' =>
      e = .returned (.tuple #[]) ∧ w.grownBy w' (some g) ∧ RowE g cap (A ++ mg lt L R ++ Z) w' := by
  have hbN := h2.bn
  have w0 : IntKind.i64.wrap ((m : Int) - a) = 1 := by rw [IntWalk.i64_in _ (by omega)]; omega
  obtain ⟨⟨xa, fa⟩, hxa⟩ : ∃ x, D[a]? = some x := ⟨_, List.getElem?_eq_getElem (by have := h2.len; omega)⟩
  have ham : a < m := by omega
  have haN : (a : Int) < (N : Int) := by omega
  have H1 := Lib.hid h1
  clear h1
  go_enter Tryz.func176, Tryz.ntmps176
  go_wp2
  go_loopw [10, 11] (fun iv jv wr => ∃ i j : Nat, m ≤ i ∧ i ≤ j ∧ j ≤ b ∧ iv = .int .i64 i ∧ jv = .int .i64 j ∧ w.grownBy wr (some g) ∧ RowE g cap D wr ∧ (∀ t, m ≤ t → t < i → ke D t < xa) ∧ (∀ t, j ≤ t → t < b → xa ≤ ke D t)) (fun iv jv _ => (intOf jv).toNat - (intOf iv).toNat)
  case atStart => exact ⟨m, b, by omega, by omega, by omega, rfl, rfl, World.grownBy.refl _ _, hr, fun t h3 h4 => (by omega), fun t h3 h4 => (by omega)⟩
  case round =>
    obtain ⟨i, j, hmi, hij, hjb, rfl, rfl, hg, hrr, hlo, hhi⟩ := hrel
    by_cases hlt : i < j
    · obtain ⟨h, hh⟩ : ∃ h, (i + j) / 2 = h := ⟨_, rfl⟩
      obtain ⟨⟨xh, fh⟩, hxh⟩ : ∃ x, D[h]? = some x := ⟨_, List.getElem?_eq_getElem (by have := h2.len; omega)⟩
      have wi : IntKind.i64.wrap ((i : Int) + j) = (i : Int) + j := IntWalk.i64_in _ (by omega)
      have hzz : ((i : Int) + j) / 2 = (h : Int) := by omega
      have hih : i ≤ h := by omega
      have hhj : h < j := by omega
      obtain ⟨pa, hpa⟩ : ∃ p, a * 6 = p := ⟨_, rfl⟩
      obtain ⟨ph, hph⟩ : ∃ p, h * 6 = p := ⟨_, rfl⟩
      have hgw := hrr.lt
      have c1 : ∀ n os, (Sort.grow (wr.drewN n) os).cell? ⟨g, pa, none⟩ = some (.string fa.1.co) := fun n os => cell_grown hgw (hpa ▸ Rw.cell hrr hxa (j := 0) rfl) n os
      have c2 : ∀ n os, (Sort.grow (wr.drewN n) os).cell? ⟨g, pa + 1, none⟩ = some (.int .i64 fa.1.ra) := fun n os => cell_grown hgw (hpa ▸ Rw.cell hrr hxa (j := 1) rfl) n os
      have c3 : ∀ n os, (Sort.grow (wr.drewN n) os).cell? ⟨g, pa + 2, none⟩ = some (.int .i64 fa.1.rt) := fun n os => cell_grown hgw (hpa ▸ Rw.cell hrr hxa (j := 2) rfl) n os
      have c4 : ∀ n os, (Sort.grow (wr.drewN n) os).cell? ⟨g, pa + 3, none⟩ = some (.int .i64 fa.1.fx) := fun n os => cell_grown hgw (hpa ▸ Rw.cell hrr hxa (j := 3) rfl) n os
      have c5 : ∀ n os, (Sort.grow (wr.drewN n) os).cell? ⟨g, pa + 4, none⟩ = some (.int .i64 fa.1.pr) := fun n os => cell_grown hgw (hpa ▸ Rw.cell hrr hxa (j := 4) rfl) n os
      have c6 : ∀ n os, (Sort.grow (wr.drewN n) os).cell? ⟨g, pa + 5, none⟩ = some (.int .i64 fa.1.tt) := fun n os => cell_grown hgw (hpa ▸ Rw.cell hrr hxa (j := 5) rfl) n os
      have c7 : ∀ n os, (Sort.grow (wr.drewN n) os).cell? ⟨g, ph, none⟩ = some (.string fh.1.co) := fun n os => cell_grown hgw (hph ▸ Rw.cell hrr hxh (j := 0) rfl) n os
      have c8 : ∀ n os, (Sort.grow (wr.drewN n) os).cell? ⟨g, ph + 1, none⟩ = some (.int .i64 fh.1.ra) := fun n os => cell_grown hgw (hph ▸ Rw.cell hrr hxh (j := 1) rfl) n os
      have c9 : ∀ n os, (Sort.grow (wr.drewN n) os).cell? ⟨g, ph + 2, none⟩ = some (.int .i64 fh.1.rt) := fun n os => cell_grown hgw (hph ▸ Rw.cell hrr hxh (j := 2) rfl) n os
      have c10 : ∀ n os, (Sort.grow (wr.drewN n) os).cell? ⟨g, ph + 3, none⟩ = some (.int .i64 fh.1.fx) := fun n os => cell_grown hgw (hph ▸ Rw.cell hrr hxh (j := 3) rfl) n os
      have c11 : ∀ n os, (Sort.grow (wr.drewN n) os).cell? ⟨g, ph + 4, none⟩ = some (.int .i64 fh.1.pr) := fun n os => cell_grown hgw (hph ▸ Rw.cell hrr hxh (j := 4) rfl) n os
      have c12 : ∀ n os, (Sort.grow (wr.drewN n) os).cell? ⟨g, ph + 5, none⟩ = some (.int .i64 fh.1.tt) := fun n os => cell_grown hgw (hph ▸ Rw.cell hrr hxh (j := 5) rfl) n os
      have hke := ke_some hxh
      have lo : xh < xa → ∀ t, m ≤ t → t < h + 1 → ke D t < xa := fun h3 t h4 h5 => by
        have := h2.leR (i := t) (j := h) h4 (by omega) (by omega)
        have h6 : ke D h = xh := hke
        omega
      have hi : ¬ xh < xa → ∀ t, h ≤ t → t < b → xa ≤ ke D t := fun h3 t h4 h5 => by
        have := h2.leR (i := h) (j := t) (by omega) h4 h5
        have h6 : ke D h = xh := hke
        omega
      have KK := Lib.hid (And.intro lo (And.intro hi (And.intro hlo hhi)))
      have HH := Lib.hid hh
      have HR := Lib.hid hrr
      clear lo hi hlo hhi hke hxh hrr hr hh
      go_wp2_with fail
      refine wp_region_quiet_grown (by kernel_rfl) (by kernel_rfl) ?_
      repeat (go_big_quiet_step (refine Calls.grown_of (cmpK' xh xa fh fa _)))
      refine wpQuiet_nil ?_
      intro _ hw'
      obtain ⟨⟨nq, osq⟩, hw''⟩ := hw'
      subst hw''
      have hg3 := gGrow hg nq osq
      have hr4 : RowE g cap _ _ := Rw.grow (HR.out.drewN nq) osq
      have HR4 := Lib.hid hr4
      clear hr4 c1 c2 c3 c4 c5 c6 c7 c8 c9 c10 c11 c12
      obtain ⟨hc1, hc2⟩ := cf_neg xh xa
      generalize cf xh xa = cc at *
      generalize Sort.grow (wr.drewN nq) osq = wq at *
      by_cases hlt2 : xh < xa
      · have hcc := hc1 hlt2
        clear hc1 hc2
        go_wp2
        exact ⟨⟨h + 1, j, by omega, by omega, by omega, by go_num, rfl, hg3, HR4.out, KK.out.1 (by omega), KK.out.2.2.2⟩, by simp [intOf]; omega⟩
      · have hcc := hc2 hlt2
        clear hc1 hc2
        go_wp2
        exact ⟨⟨i, h, by omega, by omega, by omega, rfl, rfl, hg3, HR4.out, KK.out.2.2.1, KK.out.2.1 (by omega)⟩, by simp [intOf]; omega⟩
    · have hij2 : i = j := by omega
      subst hij2
      obtain ⟨R1, R2, hR, hRl, hD, hM⟩ := h2.one hxa H1.out hmi hjb hlo hhi
      have HM := Lib.hid (And.intro hM (And.intro hR hRl))
      have hla := h2.la
      have HA := Lib.hid hla
      have hN2 : ∀ P1 P2 : List Eo, R1 = P1 ++ P2 → (A ++ P1).length + P2.length + 1 ≤ N := fun P1 P2 h => by
        have h3 := h2.len
        rw [hD] at h3
        rw [h] at h3
        simp only [List.length_append, List.length_cons] at h3 ⊢
        omega
      have HN := Lib.hid hN2
      rw [hD] at hrr
      have HR := Lib.hid hrr
      clear hD hrr hr hM hR hRl hlo hhi hxa hla hN2 hlt
      have wi1 : IntKind.i64.wrap ((i : Int) - 1) = (i : Int) - 1 := IntWalk.i64_in _ (by omega)
      obtain ⟨wo, rfl⟩ : ∃ wo : World, wo = wr := ⟨_, rfl⟩
      go_wp2
      go_loopw [13] (fun kv wr => ∃ k : Nat, a ≤ k ∧ k < i ∧ kv = .int .i64 k ∧ w.grownBy wr (some g) ∧ ∃ P1 P2 : List Eo, R1 = P1 ++ P2 ∧ a + P1.length = k ∧ RowE g cap ((A ++ P1) ++ (Eo.mk xa fa) :: (P2 ++ R2 ++ Z)) wr) (fun kv _ => i - (intOf kv).toNat)
      case atStart => exact ⟨a, by omega, by omega, rfl, hg, [], R1, rfl, by simp, by simpa using HR.out⟩
      case round =>
        obtain ⟨k, hak, hki, rfl, hg2, P1, P2, hR1, hk, hr2⟩ := hrel
        have HK := Lib.hid hk
        have HR1 := Lib.hid hR1
        have hlP : P1.length + P2.length + m = i := by
          have := HM.out.2.2; rw [hR1, List.length_append] at this; exact this
        by_cases hki2 : k + 1 < i
        · have hkk : (k : Int) < (i : Int) - 1 := by omega
          obtain ⟨⟨xb, fb⟩, P2, rfl⟩ := List.exists_cons_of_length_pos (show 0 < P2.length by have := H1.out; omega)
          have hr3 : RowE g cap ((A ++ P1) ++ (Eo.mk xa fa) :: ([] ++ (Eo.mk xb fb) :: (P2 ++ R2 ++ Z))) wr := by simpa using hr2
          have hAP : (A ++ P1).length = k := by rw [List.length_append, HA.out, hk]
          have gx := get_mid (A ++ P1) ([] ++ (Eo.mk xb fb) :: (P2 ++ R2 ++ Z)) (Eo.mk xa fa) hAP
          have gy : ((A ++ P1) ++ (Eo.mk xa fa) :: ([] ++ (Eo.mk xb fb) :: (P2 ++ R2 ++ Z)))[k + 1]? = some (Eo.mk xb fb) := by
            have := get_mid ((A ++ P1) ++ [(Eo.mk xa fa)]) (P2 ++ R2 ++ Z) (Eo.mk xb fb) (n := k + 1) (by rw [List.length_append, hAP]; rfl)
            simpa using this
          obtain ⟨pa, hpa⟩ : ∃ p, k * 6 = p := ⟨_, rfl⟩
          obtain ⟨pb, hpb⟩ : ∃ p, (k + 1) * 6 = p := ⟨_, rfl⟩
          obtain ⟨wd, hwd⟩ : ∃ x, wr.drew = x := ⟨_, rfl⟩
          have hrd : RowE g cap ((A ++ P1) ++ (Eo.mk xa fa) :: ([] ++ (Eo.mk xb fb) :: (P2 ++ R2 ++ Z))) wd := by rw [← hwd]; exact hr3
          obtain ⟨w1, w2, hs⟩ := hrd.swp (i := k) (j := k + 1) hAP (by simp) hpa hpb
          have hgd : w.grownBy wd (some g) := by rw [← hwd]; exact gDrew hg2
          have sa0 : wd.cell? ⟨g, pa, none⟩ = some (.string fa.1.co) := hs.ca 0 _ rfl
          have sa1 : wd.cell? ⟨g, pa + 1, none⟩ = some (.int .i64 fa.1.ra) := hs.ca 1 _ rfl
          have sa2 : wd.cell? ⟨g, pa + 2, none⟩ = some (.int .i64 fa.1.rt) := hs.ca 2 _ rfl
          have sa3 : wd.cell? ⟨g, pa + 3, none⟩ = some (.int .i64 fa.1.fx) := hs.ca 3 _ rfl
          have sa4 : wd.cell? ⟨g, pa + 4, none⟩ = some (.int .i64 fa.1.pr) := hs.ca 4 _ rfl
          have sa5 : wd.cell? ⟨g, pa + 5, none⟩ = some (.int .i64 fa.1.tt) := hs.ca 5 _ rfl
          have sb0 : wd.cell? ⟨g, pb, none⟩ = some (.string fb.1.co) := hs.cb 0 _ rfl
          have sb1 : wd.cell? ⟨g, pb + 1, none⟩ = some (.int .i64 fb.1.ra) := hs.cb 1 _ rfl
          have sb2 : wd.cell? ⟨g, pb + 2, none⟩ = some (.int .i64 fb.1.rt) := hs.cb 2 _ rfl
          have sb3 : wd.cell? ⟨g, pb + 3, none⟩ = some (.int .i64 fb.1.fx) := hs.cb 3 _ rfl
          have sb4 : wd.cell? ⟨g, pb + 4, none⟩ = some (.int .i64 fb.1.pr) := hs.cb 4 _ rfl
          have sb5 : wd.cell? ⟨g, pb + 5, none⟩ = some (.int .i64 fb.1.tt) := hs.cb 5 _ rfl
          have fa0 : wd.frozen? ⟨g, pa, none⟩ = false := hs.fz _
          have fa1 : wd.frozen? ⟨g, pa + 1, none⟩ = false := hs.fz _
          have fa2 : wd.frozen? ⟨g, pa + 2, none⟩ = false := hs.fz _
          have fa3 : wd.frozen? ⟨g, pa + 3, none⟩ = false := hs.fz _
          have fa4 : wd.frozen? ⟨g, pa + 4, none⟩ = false := hs.fz _
          have fa5 : wd.frozen? ⟨g, pa + 5, none⟩ = false := hs.fz _
          obtain ⟨zb0, sc0⟩ : ∃ u, w1.cell? ⟨g, pb, none⟩ = some u := hs.c1 0 (by omega)
          have fb0 : w1.frozen? ⟨g, pb, none⟩ = false := hs.f1 _
          obtain ⟨zb1, sc1⟩ : ∃ u, w1.cell? ⟨g, pb + 1, none⟩ = some u := hs.c1 1 (by omega)
          have fb1 : w1.frozen? ⟨g, pb + 1, none⟩ = false := hs.f1 _
          obtain ⟨zb2, sc2⟩ : ∃ u, w1.cell? ⟨g, pb + 2, none⟩ = some u := hs.c1 2 (by omega)
          have fb2 : w1.frozen? ⟨g, pb + 2, none⟩ = false := hs.f1 _
          obtain ⟨zb3, sc3⟩ : ∃ u, w1.cell? ⟨g, pb + 3, none⟩ = some u := hs.c1 3 (by omega)
          have fb3 : w1.frozen? ⟨g, pb + 3, none⟩ = false := hs.f1 _
          obtain ⟨zb4, sc4⟩ : ∃ u, w1.cell? ⟨g, pb + 4, none⟩ = some u := hs.c1 4 (by omega)
          have fb4 : w1.frozen? ⟨g, pb + 4, none⟩ = false := hs.f1 _
          obtain ⟨zb5, sc5⟩ : ∃ u, w1.cell? ⟨g, pb + 5, none⟩ = some u := hs.c1 5 (by omega)
          have fb5 : w1.frozen? ⟨g, pb + 5, none⟩ = false := hs.f1 _
          have he1 : (((((wd.setCell ⟨g, pa, none⟩ (.string fb.1.co)).setCell ⟨g, pa + 1, none⟩ (.int .i64 fb.1.ra)).setCell ⟨g, pa + 2, none⟩ (.int .i64 fb.1.rt)).setCell ⟨g, pa + 3, none⟩ (.int .i64 fb.1.fx)).setCell ⟨g, pa + 4, none⟩ (.int .i64 fb.1.pr)).setCell ⟨g, pa + 5, none⟩ (.int .i64 fb.1.tt) = w1 := hs.e1
          have he2 : (((((w1.setCell ⟨g, pb, none⟩ (.string fa.1.co)).setCell ⟨g, pb + 1, none⟩ (.int .i64 fa.1.ra)).setCell ⟨g, pb + 2, none⟩ (.int .i64 fa.1.rt)).setCell ⟨g, pb + 3, none⟩ (.int .i64 fa.1.fx)).setCell ⟨g, pb + 4, none⟩ (.int .i64 fa.1.pr)).setCell ⟨g, pb + 5, none⟩ (.int .i64 fa.1.tt) = w2 := hs.e2
          have v5 : IntKind.i64.wrap ((k : Int) + 1) = (k : Int) + 1 := IntWalk.i64_in _ (by omega)
          have v6 : ((k : Int) + 1).toNat = k + 1 := by omega
          have hkn : (k : Int) + 1 < (N : Int) := by omega
          have HS := Lib.hid (And.intro (gTrans hgd hs.gr) hs.ro)
          clear hs hrd hgd hr2 hr3 hAP gx gy hk hR1 hlP
          go_wp2_with fail
          go_region
          all_goals
            go_wp2
            refine ⟨⟨k + 1, by omega, by omega, by go_num, HS.out.1, P1 ++ [(Eo.mk xb fb)], P2, by rw [HR1.out]; simp, by have := HK.out; simp; omega, by simpa using HS.out.2⟩, by simp [intOf]; omega⟩
        · have hP2 : P2 = [] := List.length_eq_zero_iff.1 (by have := H1.out; omega)
          have hfin : RowE g cap (A ++ mg lt L R ++ Z) wr := by
            rw [HM.out.1, HR1.out, hP2]
            simpa [hP2] using hr2
          have HF := Lib.hid hfin
          have hkk : ¬ (k : Int) < (i : Int) - 1 := by omega
          clear hfin hr2 hP2 hlP hk hR1
          go_wp2
          refine bodyPost_ret (results_none rfl _ _ _) rfl ?_
          exact ⟨rfl, hg2, by have := HF.out; simpa using this⟩
end Go.Proofs.YtgepbkldgnjpfaaGreatDoor.Ao

namespace Go.Proofs.YtgepbkldgnjpfaaGreatDoor.Ao
open Go.RowKit Go.Sort Go.BigFrame

theorem Two.last {D A L R Z : List Eo} {a m b N : Nat} (h : Two D A L R Z a m b N) {y : Eo} {i : Nat} (hy : D[m]? = some y) (h1 : b = m + 1) (hai : a ≤ i) (him : i ≤ m) (hlo : ∀ t, a ≤ t → t < i → ke D t ≤ y.1) (hhi : ∀ t, i ≤ t → t < m → y.1 < ke D t) :
    ∃ L1 L2, L = L1 ++ L2 ∧ a + L1.length = i ∧ i + L2.length = m ∧ D = (A ++ L1 ++ L2) ++ y :: Z ∧ mg lt L R = L1 ++ y :: L2 := by
  have hla := h.la
  have hlm := h.lm
  have hR : R = [y] := by
    have h2 := h.lb
    rcases R with _ | ⟨z, _ | ⟨z2, R⟩⟩
    · simp at h2; omega
    · have h3 := hy
      rw [h.eq, show A ++ L ++ [z] ++ Z = (A ++ L) ++ z :: Z by simp, get_mid _ _ _ (by rw [List.length_append]; omega)] at h3
      cases h3; rfl
    · simp at h2; omega
  have hc := h.cut i b hai (by omega) (fun i' j' _ h3 h4 h5 => by omega) (fun i' j' h2 h3 h4 h5 => by
    have : j' = m := by omega
    subst this
    rw [ke_some hy]; exact hhi _ h2 h3)
  refine ⟨L.take (i - a), L.drop (i - a), (List.take_append_drop _ _).symm, by rw [List.length_take]; omega, by rw [List.length_drop]; omega, ?_, ?_⟩
  · rw [List.append_assoc A, List.take_append_drop, h.eq, hR]; simp
  · have e : b - m = 1 := by omega
    have hc2 := h.cut i m hai (by omega) (fun i' j' h2 h3 h4 h5 => by
      have : j' = m := by omega
      subst this
      rw [ke_some hy]; exact hlo _ h2 h3) (fun i' j' _ h3 h4 h5 => by omega)
    rw [hc2, Nat.sub_self, List.take_zero, List.drop_zero, nil_mg, hR, mg_last]
    intro x hx
    obtain ⟨t, ht1, ht2, ht3⟩ := mem_drop_ke hx
    have h6 := hhi (a + t) (by omega) (by omega)
    rw [h.keL ht2, ht3] at h6
    exact decide_eq_true (by omega)

set_option maxHeartbeats 8000000 in
set_option maxRecDepth 100000 in
theorem symMerge_last (g cap N a m b : Nat) (D A L R Z : List Eo) (w : World) (h2 : Two D A L R Z a m b N) (hn : N ≤ 1000000) (h1 : b = m + 1) (ham : a + 1 < m) (hr : RowE g cap D w) :
    Calls Tryz.prog 176 #[.slice (some ⟨g, 0, none⟩) N cap, .int .i64 a, .int .i64 m, .int .i64 b, .func (.func 107) #[] #[]] w fun e w' =>
      e = .returned (.tuple #[]) ∧ w.grownBy w' (some g) ∧ RowE g cap (A ++ mg lt L R ++ Z) w' := by
  have hbN := h2.bn
  have w0 : IntKind.i64.wrap ((m : Int) - a) = (m : Int) - a := IntWalk.i64_in _ (by omega)
  have w0' : IntKind.i64.wrap ((b : Int) - m) = 1 := by rw [IntWalk.i64_in _ (by omega)]; omega
  obtain ⟨⟨xa, fa⟩, hxa⟩ : ∃ x, D[m]? = some x := ⟨_, List.getElem?_eq_getElem (by have := h2.len; omega)⟩
  have hmN : (m : Int) < (N : Int) := by omega
  have hb1 : ((m : Int) - a == 1) = false := by simp; omega
  have H1 := Lib.hid h1
  clear h1
  go_enter Tryz.func176, Tryz.ntmps176
  go_wp2
  go_loopw [14, 15] (fun iv jv wr => ∃ i j : Nat, a ≤ i ∧ i ≤ j ∧ j ≤ m ∧ iv = .int .i64 i ∧ jv = .int .i64 j ∧ w.grownBy wr (some g) ∧ RowE g cap D wr ∧ (∀ t, a ≤ t → t < i → ke D t ≤ xa) ∧ (∀ t, j ≤ t → t < m → xa < ke D t)) (fun iv jv _ => (intOf jv).toNat - (intOf iv).toNat)
  case atStart => exact ⟨a, m, by omega, by omega, by omega, rfl, rfl, World.grownBy.refl _ _, hr, fun t h3 h4 => (by omega), fun t h3 h4 => (by omega)⟩
  case round =>
    obtain ⟨i, j, hai, hij, hjm, rfl, rfl, hg, hrr, hlo, hhi⟩ := hrel
    by_cases hlt : i < j
    · obtain ⟨h, hh⟩ : ∃ h, (i + j) / 2 = h := ⟨_, rfl⟩
      obtain ⟨⟨xh, fh⟩, hxh⟩ : ∃ x, D[h]? = some x := ⟨_, List.getElem?_eq_getElem (by have := h2.len; omega)⟩
      have wi : IntKind.i64.wrap ((i : Int) + j) = (i : Int) + j := IntWalk.i64_in _ (by omega)
      have hzz : ((i : Int) + j) / 2 = (h : Int) := by omega
      have hih : i ≤ h := by omega
      have hhj : h < j := by omega
      obtain ⟨pa, hpa⟩ : ∃ p, m * 6 = p := ⟨_, rfl⟩
      obtain ⟨ph, hph⟩ : ∃ p, h * 6 = p := ⟨_, rfl⟩
      have hgw := hrr.lt
      have c1 : ∀ n os, (Sort.grow (wr.drewN n) os).cell? ⟨g, pa, none⟩ = some (.string fa.1.co) := fun n os => cell_grown hgw (hpa ▸ Rw.cell hrr hxa (j := 0) rfl) n os
      have c2 : ∀ n os, (Sort.grow (wr.drewN n) os).cell? ⟨g, pa + 1, none⟩ = some (.int .i64 fa.1.ra) := fun n os => cell_grown hgw (hpa ▸ Rw.cell hrr hxa (j := 1) rfl) n os
      have c3 : ∀ n os, (Sort.grow (wr.drewN n) os).cell? ⟨g, pa + 2, none⟩ = some (.int .i64 fa.1.rt) := fun n os => cell_grown hgw (hpa ▸ Rw.cell hrr hxa (j := 2) rfl) n os
      have c4 : ∀ n os, (Sort.grow (wr.drewN n) os).cell? ⟨g, pa + 3, none⟩ = some (.int .i64 fa.1.fx) := fun n os => cell_grown hgw (hpa ▸ Rw.cell hrr hxa (j := 3) rfl) n os
      have c5 : ∀ n os, (Sort.grow (wr.drewN n) os).cell? ⟨g, pa + 4, none⟩ = some (.int .i64 fa.1.pr) := fun n os => cell_grown hgw (hpa ▸ Rw.cell hrr hxa (j := 4) rfl) n os
      have c6 : ∀ n os, (Sort.grow (wr.drewN n) os).cell? ⟨g, pa + 5, none⟩ = some (.int .i64 fa.1.tt) := fun n os => cell_grown hgw (hpa ▸ Rw.cell hrr hxa (j := 5) rfl) n os
      have c7 : ∀ n os, (Sort.grow (wr.drewN n) os).cell? ⟨g, ph, none⟩ = some (.string fh.1.co) := fun n os => cell_grown hgw (hph ▸ Rw.cell hrr hxh (j := 0) rfl) n os
      have c8 : ∀ n os, (Sort.grow (wr.drewN n) os).cell? ⟨g, ph + 1, none⟩ = some (.int .i64 fh.1.ra) := fun n os => cell_grown hgw (hph ▸ Rw.cell hrr hxh (j := 1) rfl) n os
      have c9 : ∀ n os, (Sort.grow (wr.drewN n) os).cell? ⟨g, ph + 2, none⟩ = some (.int .i64 fh.1.rt) := fun n os => cell_grown hgw (hph ▸ Rw.cell hrr hxh (j := 2) rfl) n os
      have c10 : ∀ n os, (Sort.grow (wr.drewN n) os).cell? ⟨g, ph + 3, none⟩ = some (.int .i64 fh.1.fx) := fun n os => cell_grown hgw (hph ▸ Rw.cell hrr hxh (j := 3) rfl) n os
      have c11 : ∀ n os, (Sort.grow (wr.drewN n) os).cell? ⟨g, ph + 4, none⟩ = some (.int .i64 fh.1.pr) := fun n os => cell_grown hgw (hph ▸ Rw.cell hrr hxh (j := 4) rfl) n os
      have c12 : ∀ n os, (Sort.grow (wr.drewN n) os).cell? ⟨g, ph + 5, none⟩ = some (.int .i64 fh.1.tt) := fun n os => cell_grown hgw (hph ▸ Rw.cell hrr hxh (j := 5) rfl) n os
      have hke := ke_some hxh
      have lo : ¬ xa < xh → ∀ t, a ≤ t → t < h + 1 → ke D t ≤ xa := fun h3 t h4 h5 => by
        have := h2.leL (i := t) (j := h) h4 (by omega) (by omega)
        have h6 : ke D h = xh := hke
        omega
      have hi : xa < xh → ∀ t, h ≤ t → t < m → xa < ke D t := fun h3 t h4 h5 => by
        have := h2.leL (i := h) (j := t) (by omega) h4 h5
        have h6 : ke D h = xh := hke
        omega
      have KK := Lib.hid (And.intro lo (And.intro hi (And.intro hlo hhi)))
      have HH := Lib.hid hh
      have HR := Lib.hid hrr
      clear lo hi hlo hhi hke hxh hrr hr hh
      go_wp2_with fail
      refine wp_region_quiet_grown (by kernel_rfl) (by kernel_rfl) ?_
      repeat (go_big_quiet_step (refine Calls.grown_of (cmpK' xa xh fa fh _)))
      refine wpQuiet_nil ?_
      intro _ hw'
      obtain ⟨⟨nq, osq⟩, hw''⟩ := hw'
      subst hw''
      have hg3 := gGrow hg nq osq
      have hr4 : RowE g cap _ _ := Rw.grow (HR.out.drewN nq) osq
      have HR4 := Lib.hid hr4
      clear hr4 c1 c2 c3 c4 c5 c6 c7 c8 c9 c10 c11 c12
      obtain ⟨hc1, hc2⟩ := cf_neg xa xh
      generalize cf xa xh = cc at *
      generalize Sort.grow (wr.drewN nq) osq = wq at *
      by_cases hlt2 : xa < xh
      · have hcc := hc1 hlt2
        have hd : decide (cc < 0) = true := decide_eq_true hcc
        clear hc1 hc2
        rw [hd]
        clear hd
        go_wp2
        exact ⟨⟨i, h, by omega, by omega, by omega, rfl, rfl, hg3, HR4.out, KK.out.2.2.1, KK.out.2.1 (by omega)⟩, by simp [intOf]; omega⟩
      · have hcc := hc2 hlt2
        have hd : decide (cc < 0) = false := decide_eq_false (by omega)
        clear hc1 hc2
        rw [hd]
        clear hd
        go_wp2
        exact ⟨⟨h + 1, j, by omega, by omega, by omega, by go_num, rfl, hg3, HR4.out, KK.out.1 (by omega), KK.out.2.2.2⟩, by simp [intOf]; omega⟩
    · have hij2 : i = j := by omega
      subst hij2
      obtain ⟨L1, L2, hL, hL1, hL2, hD, hM⟩ := h2.last hxa H1.out hai hjm hlo hhi
      have HM := Lib.hid (And.intro hM (And.intro hL (And.intro hL1 hL2)))
      have hla := h2.la
      have HA := Lib.hid hla
      rw [hD] at hrr
      have HR := Lib.hid hrr
      clear hD hrr hr hM hL hL1 hL2 hlo hhi hxa hla hlt
      obtain ⟨wo, rfl⟩ : ∃ wo : World, wo = wr := ⟨_, rfl⟩
      go_wp2
      go_loopw [17] (fun kv wr => ∃ k : Nat, i ≤ k ∧ k ≤ m ∧ kv = .int .i64 k ∧ w.grownBy wr (some g) ∧ ∃ P1 P2 : List Eo, L2 = P1 ++ P2 ∧ i + P1.length = k ∧ RowE g cap ((A ++ L1 ++ P1) ++ (Eo.mk xa fa) :: (P2 ++ Z)) wr) (fun kv _ => (intOf kv).toNat)
      case atStart => exact ⟨m, by omega, by omega, rfl, hg, L2, [], by simp, by have := HM.out; omega, by simpa using HR.out⟩
      case round =>
        obtain ⟨k, hik, hkm, rfl, hg2, P1, P2, hL2, hk, hr2⟩ := hrel
        have HK := Lib.hid hk
        have HL2 := Lib.hid hL2
        by_cases hki2 : i < k
        · obtain ⟨P1, ⟨xb, fb⟩, rfl⟩ : ∃ L z, P1 = L ++ [z] := by
            rcases List.eq_nil_or_concat P1 with h | ⟨L, z, h⟩
            · subst h; rw [List.length_nil] at hk; omega
            · exact ⟨L, z, by rw [h, List.concat_eq_append]⟩
          rw [List.length_append, List.length_singleton] at hk
          have hr3 : RowE g cap ((A ++ L1 ++ P1) ++ (Eo.mk xb fb) :: ([] ++ (Eo.mk xa fa) :: (P2 ++ Z))) wr := by simpa using hr2
          have hAP : (A ++ L1 ++ P1).length = k - 1 := by rw [List.length_append, List.length_append]; have := HM.out; have := HA.out; omega
          have gy := get_mid (A ++ L1 ++ P1) ([] ++ (Eo.mk xa fa) :: (P2 ++ Z)) (Eo.mk xb fb) hAP
          have gx : ((A ++ L1 ++ P1) ++ (Eo.mk xb fb) :: ([] ++ (Eo.mk xa fa) :: (P2 ++ Z)))[k]? = some (Eo.mk xa fa) := by
            have := get_mid ((A ++ L1 ++ P1) ++ [(Eo.mk xb fb)]) (P2 ++ Z) (Eo.mk xa fa) (n := k) (by rw [List.length_append, hAP, List.length_singleton]; omega)
            simpa using this
          obtain ⟨pa, hpa⟩ : ∃ p, k * 6 = p := ⟨_, rfl⟩
          obtain ⟨pb, hpb⟩ : ∃ p, (k - 1) * 6 = p := ⟨_, rfl⟩
          obtain ⟨wd, hwd⟩ : ∃ x, wr.drew = x := ⟨_, rfl⟩
          have hrd : RowE g cap ((A ++ L1 ++ P1) ++ (Eo.mk xb fb) :: ([] ++ (Eo.mk xa fa) :: (P2 ++ Z))) wd := by rw [← hwd]; exact hr3
          obtain ⟨w1, w2, hs⟩ := hrd.swpUp (i := k - 1) (j := k) hAP (by simp; omega) hpa hpb
          have hgd : w.grownBy wd (some g) := by rw [← hwd]; exact gDrew hg2
          have sa0 : wd.cell? ⟨g, pa, none⟩ = some (.string fa.1.co) := hs.ca 0 _ rfl
          have sa1 : wd.cell? ⟨g, pa + 1, none⟩ = some (.int .i64 fa.1.ra) := hs.ca 1 _ rfl
          have sa2 : wd.cell? ⟨g, pa + 2, none⟩ = some (.int .i64 fa.1.rt) := hs.ca 2 _ rfl
          have sa3 : wd.cell? ⟨g, pa + 3, none⟩ = some (.int .i64 fa.1.fx) := hs.ca 3 _ rfl
          have sa4 : wd.cell? ⟨g, pa + 4, none⟩ = some (.int .i64 fa.1.pr) := hs.ca 4 _ rfl
          have sa5 : wd.cell? ⟨g, pa + 5, none⟩ = some (.int .i64 fa.1.tt) := hs.ca 5 _ rfl
          have sb0 : wd.cell? ⟨g, pb, none⟩ = some (.string fb.1.co) := hs.cb 0 _ rfl
          have sb1 : wd.cell? ⟨g, pb + 1, none⟩ = some (.int .i64 fb.1.ra) := hs.cb 1 _ rfl
          have sb2 : wd.cell? ⟨g, pb + 2, none⟩ = some (.int .i64 fb.1.rt) := hs.cb 2 _ rfl
          have sb3 : wd.cell? ⟨g, pb + 3, none⟩ = some (.int .i64 fb.1.fx) := hs.cb 3 _ rfl
          have sb4 : wd.cell? ⟨g, pb + 4, none⟩ = some (.int .i64 fb.1.pr) := hs.cb 4 _ rfl
          have sb5 : wd.cell? ⟨g, pb + 5, none⟩ = some (.int .i64 fb.1.tt) := hs.cb 5 _ rfl
          have fa0 : wd.frozen? ⟨g, pa, none⟩ = false := hs.fz _
          have fa1 : wd.frozen? ⟨g, pa + 1, none⟩ = false := hs.fz _
          have fa2 : wd.frozen? ⟨g, pa + 2, none⟩ = false := hs.fz _
          have fa3 : wd.frozen? ⟨g, pa + 3, none⟩ = false := hs.fz _
          have fa4 : wd.frozen? ⟨g, pa + 4, none⟩ = false := hs.fz _
          have fa5 : wd.frozen? ⟨g, pa + 5, none⟩ = false := hs.fz _
          obtain ⟨zb0, sc0⟩ : ∃ u, w1.cell? ⟨g, pb, none⟩ = some u := hs.c1 0 (by omega)
          have fb0 : w1.frozen? ⟨g, pb, none⟩ = false := hs.f1 _
          obtain ⟨zb1, sc1⟩ : ∃ u, w1.cell? ⟨g, pb + 1, none⟩ = some u := hs.c1 1 (by omega)
          have fb1 : w1.frozen? ⟨g, pb + 1, none⟩ = false := hs.f1 _
          obtain ⟨zb2, sc2⟩ : ∃ u, w1.cell? ⟨g, pb + 2, none⟩ = some u := hs.c1 2 (by omega)
          have fb2 : w1.frozen? ⟨g, pb + 2, none⟩ = false := hs.f1 _
          obtain ⟨zb3, sc3⟩ : ∃ u, w1.cell? ⟨g, pb + 3, none⟩ = some u := hs.c1 3 (by omega)
          have fb3 : w1.frozen? ⟨g, pb + 3, none⟩ = false := hs.f1 _
          obtain ⟨zb4, sc4⟩ : ∃ u, w1.cell? ⟨g, pb + 4, none⟩ = some u := hs.c1 4 (by omega)
          have fb4 : w1.frozen? ⟨g, pb + 4, none⟩ = false := hs.f1 _
          obtain ⟨zb5, sc5⟩ : ∃ u, w1.cell? ⟨g, pb + 5, none⟩ = some u := hs.c1 5 (by omega)
          have fb5 : w1.frozen? ⟨g, pb + 5, none⟩ = false := hs.f1 _
          have he1 : (((((wd.setCell ⟨g, pa, none⟩ (.string fb.1.co)).setCell ⟨g, pa + 1, none⟩ (.int .i64 fb.1.ra)).setCell ⟨g, pa + 2, none⟩ (.int .i64 fb.1.rt)).setCell ⟨g, pa + 3, none⟩ (.int .i64 fb.1.fx)).setCell ⟨g, pa + 4, none⟩ (.int .i64 fb.1.pr)).setCell ⟨g, pa + 5, none⟩ (.int .i64 fb.1.tt) = w1 := hs.e1
          have he2 : (((((w1.setCell ⟨g, pb, none⟩ (.string fa.1.co)).setCell ⟨g, pb + 1, none⟩ (.int .i64 fa.1.ra)).setCell ⟨g, pb + 2, none⟩ (.int .i64 fa.1.rt)).setCell ⟨g, pb + 3, none⟩ (.int .i64 fa.1.fx)).setCell ⟨g, pb + 4, none⟩ (.int .i64 fa.1.pr)).setCell ⟨g, pb + 5, none⟩ (.int .i64 fa.1.tt) = w2 := hs.e2
          have v5 : IntKind.i64.wrap ((k : Int) - 1) = (k : Int) - 1 := IntWalk.i64_in _ (by omega)
          have v6 : ((k : Int) - 1).toNat = k - 1 := by omega
          have hkn : (k : Int) - 1 < (N : Int) := by omega
          have hkn0 : (0 : Int) ≤ (k : Int) - 1 := by omega
          have hkn2 : (k : Int) < (N : Int) := by omega
          have HS := Lib.hid (And.intro (gTrans hgd hs.gr) hs.ro)
          clear hs hrd hgd hr2 hr3 hAP gx gy hk hL2
          go_wp2_with fail
          go_region
          all_goals
            go_wp2
            refine ⟨⟨k - 1, by omega, by omega, by go_num, HS.out.1, P1, (Eo.mk xb fb) :: P2, by rw [HL2.out]; simp, by have := HK.out; simp at this; omega, by simpa using HS.out.2⟩, by simp [intOf]; omega⟩
        · have hP1 : P1 = [] := List.length_eq_zero_iff.1 (by omega)
          have hfin : RowE g cap (A ++ mg lt L R ++ Z) wr := by
            rw [HM.out.1, HL2.out, hP1]
            simpa [hP1] using hr2
          have HF := Lib.hid hfin
          clear hfin hr2 hP1 hk hL2
          go_wp2
          refine bodyPost_ret (results_none rfl _ _ _) rfl ?_
          exact ⟨rfl, hg2, by have := HF.out; simpa using this⟩
end Go.Proofs.YtgepbkldgnjpfaaGreatDoor.Ao
