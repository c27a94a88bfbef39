/- The stable sort of known facts, by Go's text: swap, swapRange, rotate. (Leave's StK, turned to elements of nine cells.) -/
import Derived.Test.YtdpejolpjhlibaaGreatDoorChgd
import Derived.WalkKit
import Derived.Below
import Derived.Laws.Rows
import Derived.Laws.AppendOwn
import Derived.OwnWalk
import Derived.Deep.QuietTactic
import Derived.BigRegion
import Derived.Lib.Hide
namespace Go.Proofs.YtdpejolpjhlibaaGreatDoor
open Go.RowKit Go.Sort

/-- Two elements change places. -/
theorem RowK.swap {g cap : Nat} {P M Q : List Kn} {x y : Kn} {w : World} (h : RowK g cap (P ++ x :: (M ++ y :: Q)) w) {i j : Nat} (hi : P.length = i) (hj : i + 1 + M.length = j) :
    w.grownBy ((w.setCells g (i * 9) (encK y)).setCells g (j * 9) (encK x)) (some g) ∧ RowK g cap (P ++ y :: (M ++ x :: Q)) ((w.setCells g (i * 9) (encK y)).setCells g (j * 9) (encK x)) := by
  have h1 := Rw.set_ encK_len h (i := i) (by simp; omega) y
  rw [set_mid _ _ _ _ hi] at h1
  have h2 := Rw.set_ encK_len h1 (i := j) (by simp; omega) x
  have e : P ++ y :: (M ++ y :: Q) = (P ++ y :: M) ++ y :: Q := by simp
  rw [e, set_mid _ _ _ _ (by simp; omega)] at h2
  exact ⟨gTrans (grown_setCells _ _ _) (grown_setCells _ _ _), by simpa using h2⟩

/-- The same, the later cells written first. -/
theorem RowK.swapUp {g cap : Nat} {P M Q : List Kn} {x y : Kn} {w : World} (h : RowK g cap (P ++ x :: (M ++ y :: Q)) w) {i j : Nat} (hi : P.length = i) (hj : i + 1 + M.length = j) :
    w.grownBy ((w.setCells g (j * 9) (encK x)).setCells g (i * 9) (encK y)) (some g) ∧ RowK g cap (P ++ y :: (M ++ x :: Q)) ((w.setCells g (j * 9) (encK x)).setCells g (i * 9) (encK y)) := by
  have h1 := Rw.set_ encK_len h (i := j) (by simp; omega) x
  have e : P ++ x :: (M ++ y :: Q) = (P ++ x :: M) ++ y :: Q := by simp
  rw [e, set_mid _ _ _ _ (by simp; omega)] at h1
  have h2 := Rw.set_ encK_len h1 (i := i) (by simp; omega) y
  have e2 : P ++ x :: M ++ x :: Q = P ++ x :: (M ++ x :: Q) := by simp
  rw [e2, set_mid _ _ _ _ hi] at h2
  exact ⟨gTrans (grown_setCells _ _ _) (grown_setCells _ _ _), h2⟩

/-- What a swap of two elements asks and does: x lies at pa, y at pb; first y is written at pa, then x at pb. -/
structure Swp (g cap pa pb : Nat) (x y : Kn) (l : List Kn) (w w1 w2 : World) : Prop where
  ca : ∀ j u, (encK x)[j]? = some u → w.cell? ⟨g, pa + j, none⟩ = some u
  cb : ∀ j u, (encK y)[j]? = some u → w.cell? ⟨g, pb + j, none⟩ = some u
  fz : ∀ o, w.frozen? ⟨g, o, none⟩ = false
  c1 : ∀ j, j < 9 → ∃ u, w1.cell? ⟨g, pb + j, none⟩ = some u
  f1 : ∀ o, w1.frozen? ⟨g, o, none⟩ = false
  e1 : w.setCells g pa (encK y) = w1
  e2 : w1.setCells g pb (encK x) = w2
  gr : w.grownBy w2 (some g)
  ro : RowK g cap l w2
theorem encK_some (y : Kn) (j : Nat) (hj : j < 9) : ∃ u, (encK y)[j]? = some u := ⟨_, List.getElem?_eq_getElem (by rw [encK_len]; exact hj)⟩
theorem RowK.swp {g cap : Nat} {P M Q : List Kn} {x y : Kn} {w : World} (h : RowK g cap (P ++ x :: (M ++ y :: Q)) w) {i j : Nat} (hi : P.length = i) (hj : i + 1 + M.length = j) {pa pb : Nat} (hpa : i * 9 = pa) (hpb : j * 9 = pb) :
    ∃ w1 w2, Swp g cap pa pb x y (P ++ y :: (M ++ x :: Q)) w w1 w2 := by
  subst hpa; subst hpb
  have hsw := h.swap hi hj
  have gx := get_mid P (M ++ y :: Q) x hi
  have gy : (P ++ x :: (M ++ y :: Q))[j]? = some y := by
    have := get_mid (P ++ x :: M) Q y (n := j) (by simp; omega)
    simpa using this
  have h1 := Rw.set_ encK_len h (i := i) (by simp; omega) y
  rw [set_mid _ _ _ _ hi] at h1
  have gy1 : (P ++ y :: (M ++ y :: Q))[j]? = some y := by
    have := get_mid (P ++ y :: M) Q y (n := j) (by simp; omega)
    simpa using this
  exact ⟨_, _, fun _ _ hu => h.cell gx hu, fun _ _ hu => h.cell gy hu, h.frozen, fun k hk => by
    obtain ⟨u, hu⟩ := encK_some y k hk
    exact ⟨u, h1.cell gy1 hu⟩, h1.frozen, rfl, rfl, hsw.1, hsw.2⟩
theorem RowK.swpUp {g cap : Nat} {P M Q : List Kn} {x y : Kn} {w : World} (h : RowK g cap (P ++ y :: (M ++ x :: Q)) w) {i j : Nat} (hi : P.length = i) (hj : i + 1 + M.length = j) {pa pb : Nat} (hpa : j * 9 = pa) (hpb : i * 9 = pb) :
    ∃ w1 w2, Swp g cap pa pb x y (P ++ x :: (M ++ y :: Q)) w w1 w2 := by
  subst hpa; subst hpb
  have hsw := h.swapUp hi hj
  have gy := get_mid P (M ++ x :: Q) y hi
  have gx : (P ++ y :: (M ++ x :: Q))[j]? = some x := by
    have := get_mid (P ++ y :: M) Q x (n := j) (by simp; omega)
    simpa using this
  have h1 := Rw.set_ encK_len h (i := j) (by simp; omega) y
  have e : P ++ y :: (M ++ x :: Q) = (P ++ y :: M) ++ x :: Q := by simp
  rw [e, set_mid _ _ _ _ (by simp; omega)] at h1
  have gy1 : (P ++ y :: M ++ y :: Q)[i]? = some y := by
    have := get_mid P (M ++ y :: Q) y hi
    simpa using this
  exact ⟨_, _, fun _ _ hu => h.cell gx hu, fun _ _ hu => h.cell gy hu, h.frozen, fun k hk => by
    obtain ⟨u, hu⟩ := encK_some y k hk
    exact ⟨u, h1.cell gy1 hu⟩, h1.frozen, rfl, rfl, hsw.1, hsw.2⟩

set_option maxRecDepth 100000 in
set_option maxHeartbeats 4000000 in
theorem swapRange (g cap N a b n : Nat) (A X M Y Z : List Kn) (F : Value) (w : World) (hN : (A ++ X ++ M ++ Y ++ Z).length = N) (hn : N ≤ 1000000) (ha : A.length = a) (hb : a + X.length + M.length = b) (hX : X.length = n) (hY : Y.length = n)
    (hr : RowK g cap (A ++ X ++ M ++ Y ++ Z) w) :
    Calls Tryz.prog 131 #[.slice (some ⟨g, 0, none⟩) N cap, .int .i64 a, .int .i64 b, .int .i64 n, F] w fun e w' =>
      e = .returned (.tuple #[]) ∧ w.grownBy w' (some g) ∧ RowK g cap (A ++ Y ++ M ++ X ++ Z) w' := by
  have hbn : b + n ≤ N := by simp at hN; omega
  have han : a + n ≤ b := by omega
  have HH := Lib.hid (show _ from And.intro hN (And.intro ha (And.intro hb (And.intro hX hY))))
  clear hN ha hb hX hY
  go_enter Tryz.func131, Tryz.ntmps131
  go_wp2
  go_loopw [10] (fun iv wr => ∃ i : Nat, i ≤ n ∧ iv = .int .i64 i ∧ w.grownBy wr (some g) ∧ ∃ A' X' M' Y' : List Kn, RowK g cap (A' ++ X' ++ M' ++ Y' ++ Z) wr ∧ A ++ Y ++ M ++ X ++ Z = A' ++ Y' ++ M' ++ X' ++ Z ∧ A'.length = a + i ∧ a + i + X'.length + M'.length = b + i ∧ X'.length + i = n ∧ Y'.length + i = n) (fun iv _ => n - (intOf iv).toNat)
  case atStart => exact ⟨0, Nat.zero_le _, rfl, World.grownBy.refl _ _, A, X, M, Y, hr, rfl, HH.out.2.1, HH.out.2.2.1, HH.out.2.2.2.1, HH.out.2.2.2.2⟩
  case round =>
    obtain ⟨i, hi, rfl, hg, A', X', M', Y', hrr, hT, hA, hM, hX, hY⟩ := hrel
    by_cases hlt : i < n
    · obtain ⟨x, X', rfl⟩ := List.exists_cons_of_length_pos (show 0 < X'.length by omega)
      obtain ⟨y, Y', rfl⟩ := List.exists_cons_of_length_pos (show 0 < Y'.length by omega)
      obtain ⟨xa, fa⟩ := x
      obtain ⟨xb, fb⟩ := y
      rw [List.length_cons] at hX hY hM
      have hr1 : RowK g cap (A' ++ (xa, fa) :: ((X' ++ M') ++ (xb, fb) :: (Y' ++ Z))) wr := by simpa using hrr
      have gx := get_mid A' ((X' ++ M') ++ (xb, fb) :: (Y' ++ Z)) (xa, fa) hA
      have gy : (A' ++ (xa, fa) :: ((X' ++ M') ++ (xb, fb) :: (Y' ++ Z)))[b + i]? = some (xb, fb) := by
        have := get_mid (A' ++ (xa, fa) :: (X' ++ M')) (Y' ++ Z) (xb, fb) (n := b + i) (by simp; omega)
        simpa using this
      obtain ⟨pa, hpa⟩ : ∃ p, (a + i) * 9 = p := ⟨_, rfl⟩
      obtain ⟨pb, hpb⟩ : ∃ p, (b + i) * 9 = p := ⟨_, rfl⟩
      obtain ⟨wd, hwd⟩ : ∃ x, wr.drew = x := ⟨_, rfl⟩
      have hrd : RowK g cap (A' ++ (xa, fa) :: ((X' ++ M') ++ (xb, fb) :: (Y' ++ Z))) wd := by rw [← hwd]; exact hr1
      obtain ⟨w1, w2, hs⟩ := hrd.swp (i := a + i) (j := b + i) hA (by simp; omega) hpa hpb
      have hgd : w.grownBy wd (some g) := by rw [← hwd]; exact gDrew hg
      have sa0 : wd.cell? ⟨g, pa, none⟩ = some (.int .i64 xa) := hs.ca 0 _ rfl
      have sa1 : wd.cell? ⟨g, pa + 1, none⟩ = some (.int .u32 fa.id) := hs.ca 1 _ rfl
      have sa2 : wd.cell? ⟨g, pa + 2, none⟩ = some (.int .u32 fa.pe) := hs.ca 2 _ rfl
      have sa3 : wd.cell? ⟨g, pa + 3, none⟩ = some (.int .i64 fa.ki) := hs.ca 3 _ rfl
      have sa4 : wd.cell? ⟨g, pa + 4, none⟩ = some (.int .i64 fa.fr) := hs.ca 4 _ rfl
      have sa5 : wd.cell? ⟨g, pa + 5, none⟩ = some (.int .i64 fa.to) := hs.ca 5 _ rfl
      have sa6 : wd.cell? ⟨g, pa + 6, none⟩ = some (.string fa.co) := hs.ca 6 _ rfl
      have sa7 : wd.cell? ⟨g, pa + 7, none⟩ = some (.int .i64 fa.nu) := hs.ca 7 _ rfl
      have sa8 : wd.cell? ⟨g, pa + 8, none⟩ = some (.string fa.tx) := hs.ca 8 _ rfl
      have sb0 : wd.cell? ⟨g, pb, none⟩ = some (.int .i64 xb) := hs.cb 0 _ rfl
      have sb1 : wd.cell? ⟨g, pb + 1, none⟩ = some (.int .u32 fb.id) := hs.cb 1 _ rfl
      have sb2 : wd.cell? ⟨g, pb + 2, none⟩ = some (.int .u32 fb.pe) := hs.cb 2 _ rfl
      have sb3 : wd.cell? ⟨g, pb + 3, none⟩ = some (.int .i64 fb.ki) := hs.cb 3 _ rfl
      have sb4 : wd.cell? ⟨g, pb + 4, none⟩ = some (.int .i64 fb.fr) := hs.cb 4 _ rfl
      have sb5 : wd.cell? ⟨g, pb + 5, none⟩ = some (.int .i64 fb.to) := hs.cb 5 _ rfl
      have sb6 : wd.cell? ⟨g, pb + 6, none⟩ = some (.string fb.co) := hs.cb 6 _ rfl
      have sb7 : wd.cell? ⟨g, pb + 7, none⟩ = some (.int .i64 fb.nu) := hs.cb 7 _ rfl
      have sb8 : wd.cell? ⟨g, pb + 8, none⟩ = some (.string fb.tx) := hs.cb 8 _ rfl
      have fa0 : wd.frozen? ⟨g, pa, none⟩ = false := hs.fz _
      have fa1 : wd.frozen? ⟨g, pa + 1, none⟩ = false := hs.fz _
      have fa2 : wd.frozen? ⟨g, pa + 2, none⟩ = false := hs.fz _
      have fa3 : wd.frozen? ⟨g, pa + 3, none⟩ = false := hs.fz _
      have fa4 : wd.frozen? ⟨g, pa + 4, none⟩ = false := hs.fz _
      have fa5 : wd.frozen? ⟨g, pa + 5, none⟩ = false := hs.fz _
      have fa6 : wd.frozen? ⟨g, pa + 6, none⟩ = false := hs.fz _
      have fa7 : wd.frozen? ⟨g, pa + 7, none⟩ = false := hs.fz _
      have fa8 : wd.frozen? ⟨g, pa + 8, none⟩ = false := hs.fz _
      obtain ⟨zb0, sc0⟩ : ∃ u, w1.cell? ⟨g, pb, none⟩ = some u := hs.c1 0 (by omega)
      have fb0 : w1.frozen? ⟨g, pb, none⟩ = false := hs.f1 _
      obtain ⟨zb1, sc1⟩ : ∃ u, w1.cell? ⟨g, pb + 1, none⟩ = some u := hs.c1 1 (by omega)
      have fb1 : w1.frozen? ⟨g, pb + 1, none⟩ = false := hs.f1 _
      obtain ⟨zb2, sc2⟩ : ∃ u, w1.cell? ⟨g, pb + 2, none⟩ = some u := hs.c1 2 (by omega)
      have fb2 : w1.frozen? ⟨g, pb + 2, none⟩ = false := hs.f1 _
      obtain ⟨zb3, sc3⟩ : ∃ u, w1.cell? ⟨g, pb + 3, none⟩ = some u := hs.c1 3 (by omega)
      have fb3 : w1.frozen? ⟨g, pb + 3, none⟩ = false := hs.f1 _
      obtain ⟨zb4, sc4⟩ : ∃ u, w1.cell? ⟨g, pb + 4, none⟩ = some u := hs.c1 4 (by omega)
      have fb4 : w1.frozen? ⟨g, pb + 4, none⟩ = false := hs.f1 _
      obtain ⟨zb5, sc5⟩ : ∃ u, w1.cell? ⟨g, pb + 5, none⟩ = some u := hs.c1 5 (by omega)
      have fb5 : w1.frozen? ⟨g, pb + 5, none⟩ = false := hs.f1 _
      obtain ⟨zb6, sc6⟩ : ∃ u, w1.cell? ⟨g, pb + 6, none⟩ = some u := hs.c1 6 (by omega)
      have fb6 : w1.frozen? ⟨g, pb + 6, none⟩ = false := hs.f1 _
      obtain ⟨zb7, sc7⟩ : ∃ u, w1.cell? ⟨g, pb + 7, none⟩ = some u := hs.c1 7 (by omega)
      have fb7 : w1.frozen? ⟨g, pb + 7, none⟩ = false := hs.f1 _
      obtain ⟨zb8, sc8⟩ : ∃ u, w1.cell? ⟨g, pb + 8, none⟩ = some u := hs.c1 8 (by omega)
      have fb8 : w1.frozen? ⟨g, pb + 8, none⟩ = false := hs.f1 _
      have he1 : ((((((((wd.setCell ⟨g, pa, none⟩ (.int .i64 xb)).setCell ⟨g, pa + 1, none⟩ (.int .u32 fb.id)).setCell ⟨g, pa + 2, none⟩ (.int .u32 fb.pe)).setCell ⟨g, pa + 3, none⟩ (.int .i64 fb.ki)).setCell ⟨g, pa + 4, none⟩ (.int .i64 fb.fr)).setCell ⟨g, pa + 5, none⟩ (.int .i64 fb.to)).setCell ⟨g, pa + 6, none⟩ (.string fb.co)).setCell ⟨g, pa + 7, none⟩ (.int .i64 fb.nu)).setCell ⟨g, pa + 8, none⟩ (.string fb.tx) = w1 := hs.e1
      have he2 : ((((((((w1.setCell ⟨g, pb, none⟩ (.int .i64 xa)).setCell ⟨g, pb + 1, none⟩ (.int .u32 fa.id)).setCell ⟨g, pb + 2, none⟩ (.int .u32 fa.pe)).setCell ⟨g, pb + 3, none⟩ (.int .i64 fa.ki)).setCell ⟨g, pb + 4, none⟩ (.int .i64 fa.fr)).setCell ⟨g, pb + 5, none⟩ (.int .i64 fa.to)).setCell ⟨g, pb + 6, none⟩ (.string fa.co)).setCell ⟨g, pb + 7, none⟩ (.int .i64 fa.nu)).setCell ⟨g, pb + 8, none⟩ (.string fa.tx) = w2 := hs.e2
      have v1 : IntKind.i64.wrap ((a : Int) + i) = (a : Int) + i := IntWalk.i64_in _ (by omega)
      have v2 : IntKind.i64.wrap ((b : Int) + i) = (b : Int) + i := IntWalk.i64_in _ (by omega)
      have hx : RowK g cap ((A' ++ [(xb, fb)]) ++ X' ++ (M' ++ [(xa, fa)]) ++ Y' ++ Z) w2 := by
        have := hs.ro; simp only [List.append_assoc, List.cons_append, List.nil_append] at this ⊢; exact this
      have HS := Lib.hid (And.intro (gTrans hgd hs.gr) hx)
      have HT := Lib.hid hT
      have HL := Lib.hid (And.intro hA (And.intro hM (And.intro hX hY)))
      clear hs hx hrd hgd hT hA hM hX hY gx gy hr1 hrr hr
      go_wp2_with fail
      go_region
      all_goals
        go_wp2
        have hL := HL.out
        refine ⟨⟨i + 1, by omega, by go_num, HS.out.1, A' ++ [(xb, fb)], X', M' ++ [(xa, fa)], Y', HS.out.2, by rw [HT.out]; simp, ?_, ?_, ?_, ?_⟩, by simp [intOf]; omega⟩
      all_goals (try simp only [List.length_append, List.length_cons, List.length_nil])
      all_goals omega
    · have h0 : i = n := by omega
      have hX0 : X' = [] := List.length_eq_zero_iff.1 (by omega)
      have hY0 : Y' = [] := List.length_eq_zero_iff.1 (by omega)
      rw [hX0, hY0] at hT hrr
      rw [← hT] at hrr
      have HR := Lib.hid hrr
      clear hT hA hM hX hY hrr hr hX0 hY0
      go_wp2
      go_end0
      exact ⟨rfl, hg, HR.out⟩

/-- Two ranges that touch change places. -/
theorem rotate (g cap N a m b : Nat) (A X Y Z : List Kn) (F : Value) (w : World) (hN : (A ++ X ++ Y ++ Z).length = N) (hn : N ≤ 1000000) (ha : A.length = a) (hm : a + X.length = m) (hb : m + Y.length = b) (hX0 : 0 < X.length) (hY0 : 0 < Y.length) (hr : RowK g cap (A ++ X ++ Y ++ Z) w) :
    Calls Tryz.prog 112 #[.slice (some ⟨g, 0, none⟩) N cap, .int .i64 a, .int .i64 m, .int .i64 b, F] w fun e w' =>
      e = .returned (.tuple #[]) ∧ w.grownBy w' (some g) ∧ RowK g cap (A ++ Y ++ X ++ Z) w' := by
  have hbN : b ≤ N := by simp at hN; omega
  have ham : a < m := by omega
  have hmb : m < b := by omega
  have hlen : ∀ A' X' Y' Z' : List Kn, A ++ Y ++ X ++ Z = A' ++ Y' ++ X' ++ Z' → (A' ++ X' ++ Y' ++ Z').length = N := fun A' X' Y' Z' h => by
    have := congrArg List.length h
    simp only [List.length_append] at this hN ⊢
    omega
  have HL := Lib.hid hlen
  have HH := Lib.hid (show _ from And.intro hN (And.intro ha (And.intro hm hb)))
  clear hN ha hb hm hlen hX0 hY0
  go_enter Tryz.func112, Tryz.ntmps112
  go_wp2
  go_loopw [10, 11] (fun iv jv wr => ∃ i j : Nat, 0 < i ∧ 0 < j ∧ i ≤ m ∧ m + j ≤ b ∧ iv = .int .i64 i ∧ jv = .int .i64 j ∧ w.grownBy wr (some g) ∧ ∃ A' X' Y' Z' : List Kn, RowK g cap (A' ++ X' ++ Y' ++ Z') wr ∧ A ++ Y ++ X ++ Z = A' ++ Y' ++ X' ++ Z' ∧ A'.length + i = m ∧ X'.length = i ∧ Y'.length = j) (fun iv jv _ => (intOf iv).toNat + (intOf jv).toNat)
  case atStart =>
    refine ⟨m - a, b - m, by omega, by omega, by omega, by omega, by congr 1; omega, by congr 1; omega, World.grownBy.refl _ _, A, X, Y, Z, hr, rfl, ?_, ?_, ?_⟩
    all_goals (have := HH.out; omega)
  case round =>
    obtain ⟨i, j, h0i, h0j, hi, hj, rfl, rfl, hg, A', X', Y', Z', hrr, hT, hA, hX, hY⟩ := hrel
    have w1 : IntKind.i64.wrap ((m : Int) - i) = ((m - i : Nat) : Int) := by rw [IntWalk.i64_in _ (by omega)]; omega
    by_cases he : i = j
    · subst he
      have hc := fun W hW => swapRange g cap N (m - i) m i A' X' [] Y' Z' F W (by simpa using HL.out _ _ _ _ hT) hn (by omega) (by simp; omega) hX hY hW
      simp only [List.append_nil] at hc
      have HC := Lib.hid (hc wr hrr)
      have HT := Lib.hid hT
      clear hc hrr hr hT hA hX hY
      go_wp2_with fail
      refine (HC.out).mono ?_
      rintro e w1 ⟨rfl, hg1, hr1⟩
      have HR := Lib.hid hr1
      clear hr1
      go_wp2
      go_end0
      exact ⟨rfl, gTrans hg hg1, by rw [HT.out]; exact HR.out⟩
    · have hne : ((i : Int) != j) = true := by simp; omega
      rcases Nat.lt_or_gt_of_ne he with h | h
      · -- i < j
        have w2 : IntKind.i64.wrap ((j : Int) - i) = ((j - i : Nat) : Int) := by rw [IntWalk.i64_in _ (by omega)]; omega
        have w3 : IntKind.i64.wrap ((m : Int) + j) = (m : Int) + j := IntWalk.i64_in _ (by omega)
        have w4 : IntKind.i64.wrap ((m : Int) + j - i) = ((m + j - i : Nat) : Int) := by rw [IntWalk.i64_in _ (by omega)]; omega
        have e1 : Y' = Y'.take (j - i) ++ Y'.drop (j - i) := (List.take_append_drop _ _).symm
        have l1 : (Y'.take (j - i)).length = j - i := by rw [List.length_take]; omega
        have l2 : (Y'.drop (j - i)).length = i := by rw [List.length_drop]; omega
        generalize Y'.take (j - i) = Y1 at e1 l1
        generalize Y'.drop (j - i) = Y2 at e1 l2
        subst e1
        have hc := swapRange g cap N (m - i) (m + j - i) i A' X' Y1 Y2 Z' F wr (by have := HL.out _ _ _ _ hT; simp only [List.length_append] at this ⊢; omega) hn (by omega) (by omega) hX l2 (by simpa using hrr)
        have HC := Lib.hid hc
        have HT := Lib.hid (And.intro hT (And.intro hA (And.intro hX (And.intro l1 l2))))
        clear hc hrr hr hT hA hX hY he l1 l2
        go_wp2_with fail
        refine (HC.out).mono ?_
        rintro e w1 ⟨rfl, hg1, hr1⟩
        have HR := Lib.hid hr1
        clear hr1
        go_wp2
        refine ⟨⟨i, j - i, by omega, by omega, by omega, by omega, rfl, by go_num, gTrans hg hg1, A', Y2, Y1, X' ++ Z', by simpa using HR.out, by rw [HT.out.1]; simp, ?_, ?_, ?_⟩, by simp [intOf]; omega⟩
        all_goals (have := HT.out.2; omega)
      · -- j < i
        have w2 : IntKind.i64.wrap ((i : Int) - j) = ((i - j : Nat) : Int) := by rw [IntWalk.i64_in _ (by omega)]; omega
        have e1 : X' = X'.take j ++ X'.drop j := (List.take_append_drop _ _).symm
        have l1 : (X'.take j).length = j := by rw [List.length_take]; omega
        have l2 : (X'.drop j).length = i - j := by rw [List.length_drop]; omega
        generalize X'.take j = X1 at e1 l1
        generalize X'.drop j = X2 at e1 l2
        subst e1
        have hc := swapRange g cap N (m - i) m j A' X1 X2 Y' Z' F wr (by have := HL.out _ _ _ _ hT; simp only [List.length_append] at this ⊢; omega) hn (by omega) (by omega) l1 hY (by simpa using hrr)
        have HC := Lib.hid hc
        have HT := Lib.hid (And.intro hT (And.intro hA (And.intro hY (And.intro l1 l2))))
        clear hc hrr hr hT hA hX hY he l1 l2
        go_wp2_with fail
        refine (HC.out).mono ?_
        rintro e w1 ⟨rfl, hg1, hr1⟩
        have HR := Lib.hid hr1
        clear hr1
        go_wp2
        refine ⟨⟨i - j, j, by omega, by omega, by omega, by omega, by go_num, rfl, gTrans hg hg1, A' ++ Y', X2, X1, Z', by simpa using HR.out, by rw [HT.out.1]; simp, ?_, ?_, ?_⟩, by simp [intOf]; omega⟩
        all_goals (have := HT.out.2; (try simp only [List.length_append]); omega)
end Go.Proofs.YtdpejolpjhlibaaGreatDoor
