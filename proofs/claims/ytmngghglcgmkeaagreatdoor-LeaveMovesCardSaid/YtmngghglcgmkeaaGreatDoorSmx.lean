/- Merged from: SmA SmB. -/
import Derived.Test.YtmngghglcgmkeaaGreatDoorThos
import Derived.Test.YtmngghglcgmkeaaGreatDoorStP
import Derived.Below
import Derived.BigQuiet
import Derived.BigRegion
import Derived.Deep.QuietTactic
import Derived.Laws.AppendOwn
import Derived.Laws.Rows
import Derived.Lib.Hide
import Derived.OwnWalk
import Derived.Shelf.SlSortCmp.QuietGrown
import Derived.WalkKit
import Derived.Deep.Cut
import Derived.Deep.CutRange
/- The stable sort of moves, by Go's text, first part. (Leave's sort of deeds, turned to elements of three cells: gen/turnm.py.) -/
namespace Go.Proofs.YtmngghglcgmkeaaGreatDoor.Mo
open Go.RowKit Go.Sort Go.BigFrame

/-- A move: its day, what is granted, what is taken. -/
abbrev Mv := Int × Int × Int
def encM (x : Mv) : List Value := [.int .i64 x.1, .int .i64 x.2.1, .int .i64 x.2.2]
theorem encM_len (x : Mv) : (encM x).length = 3 := rfl
abbrev RowM (g cap : Nat) (l : List Mv) (w : World) : Prop := Rw encM 3 70 g cap l w
theorem ret_int {k : IntKind} {a b : Int} (h : a = b) : Ending.returned (.int k a) = .returned (.int k b) := by rw [h]
theorem ret_bool {a b : Bool} (h : a = b) : Ending.returned (.bool a) = .returned (.bool b) := by rw [h]
def cf (x y : Int) : Int := if x < y then -1 else if y < x then 1 else 0
theorem cf_lt (x y : Int) (h : x < y) : decide (cf x y < 0) = true := by unfold cf; rw [if_pos h]; rfl
theorem cf_ge (x y : Int) (h : ¬ x < y) : decide (cf x y < 0) = false := by unfold cf; rw [if_neg h]; split <;> rfl
theorem cf_neg (x y : Int) : (x < y → cf x y < 0) ∧ (¬ x < y → 0 ≤ cf x y) := ⟨fun h => by unfold cf; rw [if_pos h]; omega, fun h => by unfold cf; rw [if_neg h]; split <;> omega⟩
def lt (x y : Mv) : Bool := decide (x.1 < y.1)
theorem lt_swk : Swk lt := ⟨fun x y h => by simp [lt] at h ⊢; omega, fun x y z h k => by simp [lt] at h k ⊢; omega⟩

theorem cmp_isNaN (x : Int) (w : World) : Calls Tryz.prog 72 #[.int .i64 x] w fun e w' => e = .returned (.bool false) ∧ w' = w := by
  go_enter Tryz.func72, Tryz.ntmps72
  go_wp2
  go_ret
  exact ⟨rfl, rfl⟩

theorem cmp_Compare (x y : Int) (w : World) : Calls Tryz.prog 43 #[.int .i64 x, .int .i64 y] w fun e w' => e = .returned (.int .i64 (cf x y)) ∧ w' = w := by
  go_enter Tryz.func43, Tryz.ntmps43
  go_wp2_with fail
  refine (cmp_isNaN x _).mono ?_
  rintro e w1 ⟨rfl, rfl⟩
  go_wp2_with fail
  refine (cmp_isNaN y _).mono ?_
  rintro e w1 ⟨rfl, rfl⟩
  by_cases h : x < y
  · go_wp2
    go_ret
    exact ⟨ret_int (by unfold cf; rw [if_pos (by omega)]), rfl⟩
  · by_cases h1 : y < x
    · go_wp2
      go_ret
      exact ⟨ret_int (by unfold cf; rw [if_neg (by omega), if_pos (by omega)]), rfl⟩
    · go_wp2
      go_ret
      exact ⟨ret_int (by unfold cf; rw [if_neg (by omega), if_neg (by omega)]), rfl⟩

theorem cmpK' (x y : Int) (f g : Int × Int) (w : World) : Calls Tryz.prog 42 #[.agg #[.int .i64 x, .int .i64 f.1, .int .i64 f.2], .agg #[.int .i64 y, .int .i64 g.1, .int .i64 g.2]] w fun e w' => e = .returned (.int .i64 (cf x y)) ∧ ∃ q os', w' = grow (w.drewN q) os' := by
  obtain ⟨f1, f2⟩ := f
  obtain ⟨g1, g2⟩ := g
  simp only
  go_enter Tryz.func42, Tryz.ntmps42
  go_wp2_with fail
  refine (cmp_Compare x y _).mono ?_
  rintro e w1 ⟨rfl, rfl⟩
  go_wp2
  go_ret
  refine ⟨rfl, 0, #[.cells #[.int .i64 x, .int .i64 f1, .int .i64 f2] 70, .cells #[.int .i64 y, .int .i64 g1, .int .i64 g2] 70], ?_⟩
  rw [alloc_eq_grow, alloc_eq_grow, grow_grow]
  rfl

/-- Two elements change places. -/
theorem RowM.swap {g cap : Nat} {P M Q : List Mv} {x y : Mv} {w : World} (h : RowM g cap (P ++ x :: (M ++ y :: Q)) w) {i j : Nat} (hi : P.length = i) (hj : i + 1 + M.length = j) :
    w.grownBy ((w.setCells g (i * 3) (encM y)).setCells g (j * 3) (encM x)) (some g) ∧ RowM g cap (P ++ y :: (M ++ x :: Q)) ((w.setCells g (i * 3) (encM y)).setCells g (j * 3) (encM x)) := by
  have h1 := Rw.set_ encM_len h (i := i) (by simp; omega) y
  rw [set_mid _ _ _ _ hi] at h1
  have h2 := Rw.set_ encM_len h1 (i := j) (by simp; omega) x
  have e : P ++ y :: (M ++ y :: Q) = (P ++ y :: M) ++ y :: Q := by simp
  rw [e, set_mid _ _ _ _ (by simp; omega)] at h2
  exact ⟨gTrans (grown_setCells _ _ _) (grown_setCells _ _ _), by simpa using h2⟩

/-- The same, the later cells written first. -/
theorem RowM.swapUp {g cap : Nat} {P M Q : List Mv} {x y : Mv} {w : World} (h : RowM g cap (P ++ x :: (M ++ y :: Q)) w) {i j : Nat} (hi : P.length = i) (hj : i + 1 + M.length = j) :
    w.grownBy ((w.setCells g (j * 3) (encM x)).setCells g (i * 3) (encM y)) (some g) ∧ RowM g cap (P ++ y :: (M ++ x :: Q)) ((w.setCells g (j * 3) (encM x)).setCells g (i * 3) (encM y)) := by
  have h1 := Rw.set_ encM_len h (i := j) (by simp; omega) x
  have e : P ++ x :: (M ++ y :: Q) = (P ++ x :: M) ++ y :: Q := by simp
  rw [e, set_mid _ _ _ _ (by simp; omega)] at h1
  have h2 := Rw.set_ encM_len h1 (i := i) (by simp; omega) y
  have e2 : P ++ x :: M ++ x :: Q = P ++ x :: (M ++ x :: Q) := by simp
  rw [e2, set_mid _ _ _ _ hi] at h2
  exact ⟨gTrans (grown_setCells _ _ _) (grown_setCells _ _ _), h2⟩

/-- What a swap of two elements asks and does: x lies at pa, y at pb; first y is written at pa, then x at pb. -/
structure Swp (g cap pa pb : Nat) (x y : Mv) (l : List Mv) (w w1 w2 : World) : Prop where
  ca : ∀ j u, (encM x)[j]? = some u → w.cell? ⟨g, pa + j, none⟩ = some u
  cb : ∀ j u, (encM y)[j]? = some u → w.cell? ⟨g, pb + j, none⟩ = some u
  fz : ∀ o, w.frozen? ⟨g, o, none⟩ = false
  c1 : ∀ j, j < 3 → ∃ u, w1.cell? ⟨g, pb + j, none⟩ = some u
  f1 : ∀ o, w1.frozen? ⟨g, o, none⟩ = false
  e1 : w.setCells g pa (encM y) = w1
  e2 : w1.setCells g pb (encM x) = w2
  gr : w.grownBy w2 (some g)
  ro : RowM g cap l w2
theorem encM_some (y : Mv) (j : Nat) (hj : j < 3) : ∃ u, (encM y)[j]? = some u := ⟨_, List.getElem?_eq_getElem (by rw [encM_len]; exact hj)⟩
theorem RowM.swp {g cap : Nat} {P M Q : List Mv} {x y : Mv} {w : World} (h : RowM g cap (P ++ x :: (M ++ y :: Q)) w) {i j : Nat} (hi : P.length = i) (hj : i + 1 + M.length = j) {pa pb : Nat} (hpa : i * 3 = pa) (hpb : j * 3 = pb) :
    ∃ w1 w2, Swp g cap pa pb x y (P ++ y :: (M ++ x :: Q)) w w1 w2 := by
  subst hpa; subst hpb
  have hsw := h.swap hi hj
  have gx := get_mid P (M ++ y :: Q) x hi
  have gy : (P ++ x :: (M ++ y :: Q))[j]? = some y := by
    have := get_mid (P ++ x :: M) Q y (n := j) (by simp; omega)
    simpa using this
  have h1 := Rw.set_ encM_len h (i := i) (by simp; omega) y
  rw [set_mid _ _ _ _ hi] at h1
  have gy1 : (P ++ y :: (M ++ y :: Q))[j]? = some y := by
    have := get_mid (P ++ y :: M) Q y (n := j) (by simp; omega)
    simpa using this
  exact ⟨_, _, fun _ _ hu => h.cell gx hu, fun _ _ hu => h.cell gy hu, h.frozen, fun k hk => by
    obtain ⟨u, hu⟩ := encM_some y k hk
    exact ⟨u, h1.cell gy1 hu⟩, h1.frozen, rfl, rfl, hsw.1, hsw.2⟩
theorem RowM.swpUp {g cap : Nat} {P M Q : List Mv} {x y : Mv} {w : World} (h : RowM g cap (P ++ y :: (M ++ x :: Q)) w) {i j : Nat} (hi : P.length = i) (hj : i + 1 + M.length = j) {pa pb : Nat} (hpa : j * 3 = pa) (hpb : i * 3 = pb) :
    ∃ w1 w2, Swp g cap pa pb x y (P ++ x :: (M ++ y :: Q)) w w1 w2 := by
  subst hpa; subst hpb
  have hsw := h.swapUp hi hj
  have gy := get_mid P (M ++ x :: Q) y hi
  have gx : (P ++ y :: (M ++ x :: Q))[j]? = some x := by
    have := get_mid (P ++ y :: M) Q x (n := j) (by simp; omega)
    simpa using this
  have h1 := Rw.set_ encM_len h (i := j) (by simp; omega) y
  have e : P ++ y :: (M ++ x :: Q) = (P ++ y :: M) ++ x :: Q := by simp
  rw [e, set_mid _ _ _ _ (by simp; omega)] at h1
  have gy1 : (P ++ y :: M ++ y :: Q)[i]? = some y := by
    have := get_mid P (M ++ y :: Q) y hi
    simpa using this
  exact ⟨_, _, fun _ _ hu => h.cell gx hu, fun _ _ hu => h.cell gy hu, h.frozen, fun k hk => by
    obtain ⟨u, hu⟩ := encM_some y k hk
    exact ⟨u, h1.cell gy1 hu⟩, h1.frozen, rfl, rfl, hsw.1, hsw.2⟩

set_option maxRecDepth 100000 in
set_option maxHeartbeats 4000000 in
theorem swapRange (g cap N a b n : Nat) (A X M Y Z : List Mv) (F : Value) (w : World) (hN : (A ++ X ++ M ++ Y ++ Z).length = N) (hn : N ≤ 1000000) (ha : A.length = a) (hb : a + X.length + M.length = b) (hX : X.length = n) (hY : Y.length = n)
    (hr : RowM g cap (A ++ X ++ M ++ Y ++ Z) w) :
    Calls Tryz.prog 141 #[.slice (some ⟨g, 0, none⟩) N cap, .int .i64 a, .int .i64 b, .int .i64 n, F] w fun e w' =>
      e = .returned (.tuple #[]) ∧ w.grownBy w' (some g) ∧ RowM g cap (A ++ Y ++ M ++ X ++ Z) w' := by
  have hbn : b + n ≤ N := by simp at hN; omega
  have han : a + n ≤ b := by omega
  have HH := Lib.hid (show _ from And.intro hN (And.intro ha (And.intro hb (And.intro hX hY))))
  clear hN ha hb hX hY
  go_enter Tryz.func141, Tryz.ntmps141
  go_wp2
  go_loopw [10] (fun iv wr => ∃ i : Nat, i ≤ n ∧ iv = .int .i64 i ∧ w.grownBy wr (some g) ∧ ∃ A' X' M' Y' : List Mv, RowM g cap (A' ++ X' ++ M' ++ Y' ++ Z) wr ∧ A ++ Y ++ M ++ X ++ Z = A' ++ Y' ++ M' ++ X' ++ Z ∧ A'.length = a + i ∧ a + i + X'.length + M'.length = b + i ∧ X'.length + i = n ∧ Y'.length + i = n) (fun iv _ => n - (intOf iv).toNat)
  case atStart => exact ⟨0, Nat.zero_le _, rfl, World.grownBy.refl _ _, A, X, M, Y, hr, rfl, HH.out.2.1, HH.out.2.2.1, HH.out.2.2.2.1, HH.out.2.2.2.2⟩
  case round =>
    obtain ⟨i, hi, rfl, hg, A', X', M', Y', hrr, hT, hA, hM, hX, hY⟩ := hrel
    by_cases hlt : i < n
    · obtain ⟨x, X', rfl⟩ := List.exists_cons_of_length_pos (show 0 < X'.length by omega)
      obtain ⟨y, Y', rfl⟩ := List.exists_cons_of_length_pos (show 0 < Y'.length by omega)
      obtain ⟨xa, fa⟩ := x
      obtain ⟨xb, fb⟩ := y
      rw [List.length_cons] at hX hY hM
      have hr1 : RowM g cap (A' ++ (xa, fa) :: ((X' ++ M') ++ (xb, fb) :: (Y' ++ Z))) wr := by simpa using hrr
      have gx := get_mid A' ((X' ++ M') ++ (xb, fb) :: (Y' ++ Z)) (xa, fa) hA
      have gy : (A' ++ (xa, fa) :: ((X' ++ M') ++ (xb, fb) :: (Y' ++ Z)))[b + i]? = some (xb, fb) := by
        have := get_mid (A' ++ (xa, fa) :: (X' ++ M')) (Y' ++ Z) (xb, fb) (n := b + i) (by simp; omega)
        simpa using this
      obtain ⟨pa, hpa⟩ : ∃ p, (a + i) * 3 = p := ⟨_, rfl⟩
      obtain ⟨pb, hpb⟩ : ∃ p, (b + i) * 3 = p := ⟨_, rfl⟩
      obtain ⟨wd, hwd⟩ : ∃ x, wr.drew = x := ⟨_, rfl⟩
      have hrd : RowM g cap (A' ++ (xa, fa) :: ((X' ++ M') ++ (xb, fb) :: (Y' ++ Z))) wd := by rw [← hwd]; exact hr1
      obtain ⟨w1, w2, hs⟩ := hrd.swp (i := a + i) (j := b + i) hA (by simp; omega) hpa hpb
      have hgd : w.grownBy wd (some g) := by rw [← hwd]; exact gDrew hg
      have sa0 : wd.cell? ⟨g, pa, none⟩ = some (.int .i64 xa) := hs.ca 0 _ rfl
      have sa1 : wd.cell? ⟨g, pa + 1, none⟩ = some (.int .i64 fa.1) := hs.ca 1 _ rfl
      have sa2 : wd.cell? ⟨g, pa + 2, none⟩ = some (.int .i64 fa.2) := hs.ca 2 _ rfl
      have sb0 : wd.cell? ⟨g, pb, none⟩ = some (.int .i64 xb) := hs.cb 0 _ rfl
      have sb1 : wd.cell? ⟨g, pb + 1, none⟩ = some (.int .i64 fb.1) := hs.cb 1 _ rfl
      have sb2 : wd.cell? ⟨g, pb + 2, none⟩ = some (.int .i64 fb.2) := hs.cb 2 _ rfl
      have fa0 : wd.frozen? ⟨g, pa, none⟩ = false := hs.fz _
      have fa1 : wd.frozen? ⟨g, pa + 1, none⟩ = false := hs.fz _
      have fa2 : wd.frozen? ⟨g, pa + 2, none⟩ = false := hs.fz _
      obtain ⟨zb0, sc0⟩ : ∃ u, w1.cell? ⟨g, pb, none⟩ = some u := hs.c1 0 (by omega)
      have fb0 : w1.frozen? ⟨g, pb, none⟩ = false := hs.f1 _
      obtain ⟨zb1, sc1⟩ : ∃ u, w1.cell? ⟨g, pb + 1, none⟩ = some u := hs.c1 1 (by omega)
      have fb1 : w1.frozen? ⟨g, pb + 1, none⟩ = false := hs.f1 _
      obtain ⟨zb2, sc2⟩ : ∃ u, w1.cell? ⟨g, pb + 2, none⟩ = some u := hs.c1 2 (by omega)
      have fb2 : w1.frozen? ⟨g, pb + 2, none⟩ = false := hs.f1 _
      have he1 : ((wd.setCell ⟨g, pa, none⟩ (.int .i64 xb)).setCell ⟨g, pa + 1, none⟩ (.int .i64 fb.1)).setCell ⟨g, pa + 2, none⟩ (.int .i64 fb.2) = w1 := hs.e1
      have he2 : ((w1.setCell ⟨g, pb, none⟩ (.int .i64 xa)).setCell ⟨g, pb + 1, none⟩ (.int .i64 fa.1)).setCell ⟨g, pb + 2, none⟩ (.int .i64 fa.2) = w2 := hs.e2
      have v1 : IntKind.i64.wrap ((a : Int) + i) = (a : Int) + i := IntWalk.i64_in _ (by omega)
      have v2 : IntKind.i64.wrap ((b : Int) + i) = (b : Int) + i := IntWalk.i64_in _ (by omega)
      have hx : RowM g cap ((A' ++ [(xb, fb)]) ++ X' ++ (M' ++ [(xa, fa)]) ++ Y' ++ Z) w2 := by
        have := hs.ro; simp only [List.append_assoc, List.cons_append, List.nil_append] at this ⊢; exact this
      have HS := Lib.hid (And.intro (gTrans hgd hs.gr) hx)
      have HT := Lib.hid hT
      have HL := Lib.hid (And.intro hA (And.intro hM (And.intro hX hY)))
      clear hs hx hrd hgd hT hA hM hX hY gx gy hr1 hrr hr
      go_wp2_with fail
      go_region
      all_goals
        go_wp2
        have hL := HL.out
        refine ⟨⟨i + 1, by omega, by go_num, HS.out.1, A' ++ [(xb, fb)], X', M' ++ [(xa, fa)], Y', HS.out.2, by rw [HT.out]; simp, ?_, ?_, ?_, ?_⟩, by simp [intOf]; omega⟩
      all_goals (try simp only [List.length_append, List.length_cons, List.length_nil])
      all_goals omega
    · have h0 : i = n := by omega
      have hX0 : X' = [] := List.length_eq_zero_iff.1 (by omega)
      have hY0 : Y' = [] := List.length_eq_zero_iff.1 (by omega)
      rw [hX0, hY0] at hT hrr
      rw [← hT] at hrr
      have HR := Lib.hid hrr
      clear hT hA hM hX hY hrr hr hX0 hY0
      go_wp2
      go_end0
      exact ⟨rfl, hg, HR.out⟩

/-- Two ranges that touch change places. -/
theorem rotate (g cap N a m b : Nat) (A X Y Z : List Mv) (F : Value) (w : World) (hN : (A ++ X ++ Y ++ Z).length = N) (hn : N ≤ 1000000) (ha : A.length = a) (hm : a + X.length = m) (hb : m + Y.length = b) (hX0 : 0 < X.length) (hY0 : 0 < Y.length) (hr : RowM g cap (A ++ X ++ Y ++ Z) w) :
    Calls Tryz.prog 123 #[.slice (some ⟨g, 0, none⟩) N cap, .int .i64 a, .int .i64 m, .int .i64 b, F] w fun e w' =>
      e = .returned (.tuple #[]) ∧ w.grownBy w' (some g) ∧ RowM g cap (A ++ Y ++ X ++ Z) w' := by
  have hbN : b ≤ N := by simp at hN; omega
  have ham : a < m := by omega
  have hmb : m < b := by omega
  have hlen : ∀ A' X' Y' Z' : List Mv, A ++ Y ++ X ++ Z = A' ++ Y' ++ X' ++ Z' → (A' ++ X' ++ Y' ++ Z').length = N := fun A' X' Y' Z' h => by
    have := congrArg List.length h
    simp only [List.length_append] at this hN ⊢
    omega
  have HL := Lib.hid hlen
  have HH := Lib.hid (show _ from And.intro hN (And.intro ha (And.intro hm hb)))
  clear hN ha hb hm hlen hX0 hY0
  go_enter Tryz.func123, Tryz.ntmps123
  go_wp2
  go_loopw [10, 11] (fun iv jv wr => ∃ i j : Nat, 0 < i ∧ 0 < j ∧ i ≤ m ∧ m + j ≤ b ∧ iv = .int .i64 i ∧ jv = .int .i64 j ∧ w.grownBy wr (some g) ∧ ∃ A' X' Y' Z' : List Mv, RowM g cap (A' ++ X' ++ Y' ++ Z') wr ∧ A ++ Y ++ X ++ Z = A' ++ Y' ++ X' ++ Z' ∧ A'.length + i = m ∧ X'.length = i ∧ Y'.length = j) (fun iv jv _ => (intOf iv).toNat + (intOf jv).toNat)
  case atStart =>
    refine ⟨m - a, b - m, by omega, by omega, by omega, by omega, by congr 1; omega, by congr 1; omega, World.grownBy.refl _ _, A, X, Y, Z, hr, rfl, ?_, ?_, ?_⟩
    all_goals (have := HH.out; omega)
  case round =>
    obtain ⟨i, j, h0i, h0j, hi, hj, rfl, rfl, hg, A', X', Y', Z', hrr, hT, hA, hX, hY⟩ := hrel
    have w1 : IntKind.i64.wrap ((m : Int) - i) = ((m - i : Nat) : Int) := by rw [IntWalk.i64_in _ (by omega)]; omega
    by_cases he : i = j
    · subst he
      have hc := fun W hW => swapRange g cap N (m - i) m i A' X' [] Y' Z' F W (by simpa using HL.out _ _ _ _ hT) hn (by omega) (by simp; omega) hX hY hW
      simp only [List.append_nil] at hc
      have HC := Lib.hid (hc wr hrr)
      have HT := Lib.hid hT
      clear hc hrr hr hT hA hX hY
      go_wp2_with fail
      refine (HC.out).mono ?_
      rintro e w1 ⟨rfl, hg1, hr1⟩
      have HR := Lib.hid hr1
      clear hr1
      go_wp2
      go_end0
      exact ⟨rfl, gTrans hg hg1, by rw [HT.out]; exact HR.out⟩
    · have hne : ((i : Int) != j) = true := by simp; omega
      rcases Nat.lt_or_gt_of_ne he with h | h
      · -- i < j
        have w2 : IntKind.i64.wrap ((j : Int) - i) = ((j - i : Nat) : Int) := by rw [IntWalk.i64_in _ (by omega)]; omega
        have w3 : IntKind.i64.wrap ((m : Int) + j) = (m : Int) + j := IntWalk.i64_in _ (by omega)
        have w4 : IntKind.i64.wrap ((m : Int) + j - i) = ((m + j - i : Nat) : Int) := by rw [IntWalk.i64_in _ (by omega)]; omega
        have e1 : Y' = Y'.take (j - i) ++ Y'.drop (j - i) := (List.take_append_drop _ _).symm
        have l1 : (Y'.take (j - i)).length = j - i := by rw [List.length_take]; omega
        have l2 : (Y'.drop (j - i)).length = i := by rw [List.length_drop]; omega
        generalize Y'.take (j - i) = Y1 at e1 l1
        generalize Y'.drop (j - i) = Y2 at e1 l2
        subst e1
        have hc := swapRange g cap N (m - i) (m + j - i) i A' X' Y1 Y2 Z' F wr (by have := HL.out _ _ _ _ hT; simp only [List.length_append] at this ⊢; omega) hn (by omega) (by omega) hX l2 (by simpa using hrr)
        have HC := Lib.hid hc
        have HT := Lib.hid (And.intro hT (And.intro hA (And.intro hX (And.intro l1 l2))))
        clear hc hrr hr hT hA hX hY he l1 l2
        go_wp2_with fail
        refine (HC.out).mono ?_
        rintro e w1 ⟨rfl, hg1, hr1⟩
        have HR := Lib.hid hr1
        clear hr1
        go_wp2
        refine ⟨⟨i, j - i, by omega, by omega, by omega, by omega, rfl, by go_num, gTrans hg hg1, A', Y2, Y1, X' ++ Z', by simpa using HR.out, by rw [HT.out.1]; simp, ?_, ?_, ?_⟩, by simp [intOf]; omega⟩
        all_goals (have := HT.out.2; omega)
      · -- j < i
        have w2 : IntKind.i64.wrap ((i : Int) - j) = ((i - j : Nat) : Int) := by rw [IntWalk.i64_in _ (by omega)]; omega
        have e1 : X' = X'.take j ++ X'.drop j := (List.take_append_drop _ _).symm
        have l1 : (X'.take j).length = j := by rw [List.length_take]; omega
        have l2 : (X'.drop j).length = i - j := by rw [List.length_drop]; omega
        generalize X'.take j = X1 at e1 l1
        generalize X'.drop j = X2 at e1 l2
        subst e1
        have hc := swapRange g cap N (m - i) m j A' X1 X2 Y' Z' F wr (by have := HL.out _ _ _ _ hT; simp only [List.length_append] at this ⊢; omega) hn (by omega) (by omega) l1 hY (by simpa using hrr)
        have HC := Lib.hid hc
        have HT := Lib.hid (And.intro hT (And.intro hA (And.intro hY (And.intro l1 l2))))
        clear hc hrr hr hT hA hX hY he l1 l2
        go_wp2_with fail
        refine (HC.out).mono ?_
        rintro e w1 ⟨rfl, hg1, hr1⟩
        have HR := Lib.hid hr1
        clear hr1
        go_wp2
        refine ⟨⟨i - j, j, by omega, by omega, by omega, by omega, by go_num, rfl, gTrans hg hg1, A' ++ Y', X2, X1, Z', by simpa using HR.out, by rw [HT.out.1]; simp, ?_, ?_, ?_⟩, by simp [intOf]; omega⟩
        all_goals (have := HT.out.2; (try simp only [List.length_append]); omega)
end Go.Proofs.YtmngghglcgmkeaaGreatDoor.Mo

namespace Go.Proofs.YtmngghglcgmkeaaGreatDoor.Mo
open Go.RowKit Go.Sort Go.BigFrame

theorem ins_done {S1 L1 L2 : List Mv} {x : Mv} (hL : L1 ++ L2 = ss lt S1) (h2 : ∀ y ∈ L2, lt x y = true) (h1 : L1 = [] ∨ ∃ L z, L1 = L ++ [z] ∧ lt x z = false) : L1 ++ x :: L2 = ss lt (S1 ++ [x]) := by
  have hs : Srt lt L1 := by
    have := srt_ss lt_swk S1
    rw [← hL] at this
    exact (List.pairwise_append.1 this).1
  have h3 : ∀ l ∈ L1, lt x l = false := by
    rcases h1 with rfl | ⟨L, z, rfl, hz⟩
    · intro l hl; cases hl
    · intro l hl
      rcases List.mem_append.1 hl with h4 | h4
      · exact lt_swk.tr _ _ _ ((List.pairwise_append.1 hs).2.2 l h4 z (by simp)) hz
      · rw [List.mem_singleton.1 h4]; exact hz
  have e1 := mg_split (lt := lt) L1 L2 [] [x] (fun l hl y hy => by rw [List.mem_singleton.1 hy]; exact h3 l hl) (fun y hy => by cases hy)
  have e2 := mg_split (lt := lt) [] L2 [x] [] (fun y hy => by cases hy) (fun y hy l hl => by rw [List.mem_singleton.1 hy]; exact h2 l hl)
  simp only [List.nil_append, List.append_nil, nil_mg, mg_nil] at e1 e2
  rw [← ss_snoc lt_swk, ← hL, e1, e2]
  simp

theorem Rw.grow {α : Type} {enc : α → List Value} {k : Nat} {e : TypeId} {g cap : Nat} {l : List α} {w : World} (h : Rw enc k e g cap l w) (os : Array Obj) : Rw enc k e g cap l (Sort.grow w os) := by
  have hl := h.lt
  obtain ⟨cur, hc, hr⟩ := h
  exact ⟨cur, (heap_grow_old w os hl).trans hc, hr⟩
theorem gGrow {g : Nat} {a b : World} (h : a.grownBy b (some g)) (n : Nat) (os : Array Obj) : a.grownBy (Sort.grow (b.drewN n) os) (some g) :=
  ⟨h.os, h.tape, h.output, by rw [size_grow]; exact Nat.le_trans h.size (Nat.le_add_right _ _), fun i hi hn => (heap_grow_old _ os (show i < (b.drewN n).heap.size from Nat.lt_of_lt_of_le hi h.size)).trans (h.block i hi hn)⟩

set_option maxRecDepth 100000 in
set_option maxHeartbeats 8000000 in
theorem insSort (g cap N a b : Nat) (A S Z : List Mv) (w : World) (hN : (A ++ S ++ Z).length = N) (hn : N ≤ 1000000) (ha : A.length = a) (hb : a + S.length = b) (hr : RowM g cap (A ++ S ++ Z) w) :
    Calls Tryz.prog 104 #[.slice (some ⟨g, 0, none⟩) N cap, .int .i64 a, .int .i64 b, .func (.func 42) #[] #[]] w fun e w' =>
      e = .returned (.tuple #[]) ∧ w.grownBy w' (some g) ∧ RowM g cap (A ++ ss lt S ++ Z) w' := by
  have hbN : b ≤ N := by simp at hN; omega
  have hab : a ≤ b := by omega
  have HH := Lib.hid (And.intro ha hb)
  clear hN ha hb
  go_enter Tryz.func104, Tryz.ntmps104
  go_wp2
  go_loopw [8] (fun iv wr => ∃ i : Nat, a < i ∧ i ≤ b + 1 ∧ iv = .int .i64 i ∧ w.grownBy wr (some g) ∧ ∃ S1 S2 : List Mv, RowM g cap (A ++ ss lt S1 ++ S2 ++ Z) wr ∧ S = S1 ++ S2 ∧ (i = a + S1.length ∧ i ≤ b ∨ S2 = [] ∧ b ≤ i)) (fun iv _ => b + 1 - (intOf iv).toNat)
  case atStart =>
    refine ⟨a + 1, by omega, by omega, by go_num, World.grownBy.refl _ _, ?_⟩
    cases S with
    | nil => exact ⟨[], [], by simpa [ss] using hr, rfl, .inr ⟨rfl, by have := HH.out; simp at this; omega⟩⟩
    | cons s S => exact ⟨[s], S, by simpa [ss_one] using hr, rfl, .inl ⟨rfl, by have := HH.out; simp at this; omega⟩⟩
  case round =>
    obtain ⟨i, hai, hib, rfl, hg, S1, S2, hrr, hS, hi⟩ := hrel
    by_cases hlt : i < b
    · have hL : a + S1.length = i ∧ i + S2.length = b := by
        have h1 := HH.out.2
        rw [hS, List.length_append] at h1
        rcases hi with ⟨h2, h3⟩ | ⟨h2, h3⟩ <;> omega
      obtain ⟨⟨xa, fa⟩, S2, rfl⟩ := List.exists_cons_of_length_pos (show 0 < S2.length by omega)
      have HS0 := Lib.hid hS
      have HR := Lib.hid hrr
      have HL := Lib.hid hL
      clear hi hS hrr hr hL
      obtain ⟨wo, rfl⟩ : ∃ wo : World, wo = wr := ⟨_, rfl⟩
      go_wp2
      go_loopw [9] (fun jv wr => ∃ j : Nat, a ≤ j ∧ j ≤ i ∧ jv = .int .i64 j ∧ w.grownBy wr (some g) ∧ ∃ L1 L2 : List Mv, RowM g cap (A ++ L1 ++ (xa, fa) :: (L2 ++ S2 ++ Z)) wr ∧ L1 ++ L2 = ss lt S1 ∧ j = a + L1.length ∧ ∀ y ∈ L2, lt (xa, fa) y = true) (fun jv _ => (intOf jv).toNat)
      case atStart => exact ⟨i, by omega, by omega, rfl, hg, ss lt S1, [], by simpa using HR.out, by simp, by rw [ss_length]; have := HL.out; omega, by simp⟩
      case round =>
        obtain ⟨j, haj, hji, rfl, hg2, L1, L2, hr2, hL12, hj, hx⟩ := hrel
        have HX := Lib.hid (And.intro hL12 hx)
        clear hL12 hx
        have fin : (L1 = [] ∨ ∃ L z, L1 = L ++ [z] ∧ lt (xa, fa) z = false) → ∀ w2, RowM g cap (A ++ L1 ++ (xa, fa) :: (L2 ++ S2 ++ Z)) w2 → RowM g cap (A ++ ss lt (S1 ++ [(xa, fa)]) ++ S2 ++ Z) w2 := fun h w2 hw => by
          rw [← ins_done HX.out.1 HX.out.2 h]; simpa using hw
        have FIN := Lib.hid fin
        clear fin
        by_cases hja : a < j
        · have hgt : decide ((j : Int) > (a : Int)) = true := by simp; omega
          have hgt2 : decide ((a : Int) < (j : Int)) = true := by simp; omega
          obtain ⟨L1, ⟨xb, fb⟩, rfl⟩ : ∃ L z, L1 = L ++ [z] := by
            rcases List.eq_nil_or_concat L1 with h | ⟨L, z, h⟩
            · subst h; rw [List.length_nil] at hj; omega
            · exact ⟨L, z, by rw [h, List.concat_eq_append]⟩
          rw [List.length_append, List.length_singleton] at hj
          have hr3 : RowM g cap ((A ++ L1) ++ (xb, fb) :: ([] ++ (xa, fa) :: (L2 ++ S2 ++ Z))) wr := by simpa using hr2
          have hAL : (A ++ L1).length = j - 1 := by have := HH.out; simp; omega
          have gy := get_mid (A ++ L1) ([] ++ (xa, fa) :: (L2 ++ S2 ++ Z)) (xb, fb) hAL
          have gx : ((A ++ L1) ++ (xb, fb) :: ([] ++ (xa, fa) :: (L2 ++ S2 ++ Z)))[j]? = some (xa, fa) := by
            have := get_mid ((A ++ L1) ++ [(xb, fb)]) (L2 ++ S2 ++ Z) (xa, fa) (n := j) (by rw [List.length_append, hAL]; simp; omega)
            simpa using this
          obtain ⟨pa, hpa⟩ : ∃ p, j * 3 = p := ⟨_, rfl⟩
          obtain ⟨pb, hpb⟩ : ∃ p, (j - 1) * 3 = p := ⟨_, rfl⟩
          have hgw := hr3.lt
          have c1 : ∀ n os, (Sort.grow (wr.drewN n) os).cell? ⟨g, pa, none⟩ = some (.int .i64 xa) := fun n os => cell_grown hgw (hpa ▸ Rw.cell hr3 gx (j := 0) rfl) n os
          have c2 : ∀ n os, (Sort.grow (wr.drewN n) os).cell? ⟨g, pa + 1, none⟩ = some (.int .i64 fa.1) := fun n os => cell_grown hgw (hpa ▸ Rw.cell hr3 gx (j := 1) rfl) n os
          have c3 : ∀ n os, (Sort.grow (wr.drewN n) os).cell? ⟨g, pa + 2, none⟩ = some (.int .i64 fa.2) := fun n os => cell_grown hgw (hpa ▸ Rw.cell hr3 gx (j := 2) rfl) n os
          have c4 : ∀ n os, (Sort.grow (wr.drewN n) os).cell? ⟨g, pb, none⟩ = some (.int .i64 xb) := fun n os => cell_grown hgw (hpb ▸ Rw.cell hr3 gy (j := 0) rfl) n os
          have c5 : ∀ n os, (Sort.grow (wr.drewN n) os).cell? ⟨g, pb + 1, none⟩ = some (.int .i64 fb.1) := fun n os => cell_grown hgw (hpb ▸ Rw.cell hr3 gy (j := 1) rfl) n os
          have c6 : ∀ n os, (Sort.grow (wr.drewN n) os).cell? ⟨g, pb + 2, none⟩ = some (.int .i64 fb.2) := fun n os => cell_grown hgw (hpb ▸ Rw.cell hr3 gy (j := 2) rfl) n os
          have HJ := Lib.hid hj
          have HSW := Lib.hid hr3
          have HJ2 := Lib.hid hAL
          have GX := Lib.hid gx
          have GY := Lib.hid gy
          clear hj hAL gx gy hr2 hr3
          have w1 : IntKind.i64.wrap ((j : Int) - 1) = (j : Int) - 1 := IntWalk.i64_in _ (by omega)
          have w2 : ((j : Int) - 1).toNat = j - 1 := by omega
          have hw3 : (0 : Int) ≤ (j : Int) - 1 := by omega
          have hw4 : (j : Int) - 1 < (N : Int) := by omega
          have hw5 : (j : Int) < (N : Int) := by omega
          go_wp2_with fail
          refine wp_region_quiet_grown (by kernel_rfl) (by kernel_rfl) ?_
          repeat (go_big_quiet_step (refine Calls.grown_of (cmpK' xa xb fa fb _)))
          refine wpQuiet_nil ?_
          intro _ hw'
          obtain ⟨⟨nq, osq⟩, hw''⟩ := hw'
          subst hw''
          have hg3 := gGrow hg2 nq osq
          have hr4 : RowM g cap _ _ := Rw.grow (HSW.out.drewN nq) osq
          have HR4 := Lib.hid hr4
          clear hr4
          generalize Sort.grow (wr.drewN nq) osq = wq at *
          obtain ⟨hc1, hc2⟩ := cf_neg xa xb
          generalize cf xa xb = cc at *
          by_cases hlt2 : xa < xb
          · have hcc := hc1 hlt2
            clear hc1 hc2
            obtain ⟨wd, hwd⟩ : ∃ x, wq.drew = x := ⟨_, rfl⟩
            have hrd : RowM g cap ((A ++ L1) ++ (xb, fb) :: ([] ++ (xa, fa) :: (L2 ++ S2 ++ Z))) wd := by rw [← hwd]; exact HR4.out
            obtain ⟨w1, w2, hs⟩ := hrd.swpUp (i := j - 1) (j := j) HJ2.out (by simp; omega) hpa hpb
            have hgd : w.grownBy wd (some g) := by rw [← hwd]; exact gDrew hg3
            have sa0 : wd.cell? ⟨g, pa, none⟩ = some (.int .i64 xa) := hs.ca 0 _ rfl
            have sa1 : wd.cell? ⟨g, pa + 1, none⟩ = some (.int .i64 fa.1) := hs.ca 1 _ rfl
            have sa2 : wd.cell? ⟨g, pa + 2, none⟩ = some (.int .i64 fa.2) := hs.ca 2 _ rfl
            have sb0 : wd.cell? ⟨g, pb, none⟩ = some (.int .i64 xb) := hs.cb 0 _ rfl
            have sb1 : wd.cell? ⟨g, pb + 1, none⟩ = some (.int .i64 fb.1) := hs.cb 1 _ rfl
            have sb2 : wd.cell? ⟨g, pb + 2, none⟩ = some (.int .i64 fb.2) := hs.cb 2 _ rfl
            have fa0 : wd.frozen? ⟨g, pa, none⟩ = false := hs.fz _
            have fa1 : wd.frozen? ⟨g, pa + 1, none⟩ = false := hs.fz _
            have fa2 : wd.frozen? ⟨g, pa + 2, none⟩ = false := hs.fz _
            obtain ⟨zb0, sc0⟩ : ∃ u, w1.cell? ⟨g, pb, none⟩ = some u := hs.c1 0 (by omega)
            have fb0 : w1.frozen? ⟨g, pb, none⟩ = false := hs.f1 _
            obtain ⟨zb1, sc1⟩ : ∃ u, w1.cell? ⟨g, pb + 1, none⟩ = some u := hs.c1 1 (by omega)
            have fb1 : w1.frozen? ⟨g, pb + 1, none⟩ = false := hs.f1 _
            obtain ⟨zb2, sc2⟩ : ∃ u, w1.cell? ⟨g, pb + 2, none⟩ = some u := hs.c1 2 (by omega)
            have fb2 : w1.frozen? ⟨g, pb + 2, none⟩ = false := hs.f1 _
            have he1 : ((wd.setCell ⟨g, pa, none⟩ (.int .i64 xb)).setCell ⟨g, pa + 1, none⟩ (.int .i64 fb.1)).setCell ⟨g, pa + 2, none⟩ (.int .i64 fb.2) = w1 := hs.e1
            have he2 : ((w1.setCell ⟨g, pb, none⟩ (.int .i64 xa)).setCell ⟨g, pb + 1, none⟩ (.int .i64 fa.1)).setCell ⟨g, pb + 2, none⟩ (.int .i64 fa.2) = w2 := hs.e2
            have HS := Lib.hid (And.intro (gTrans hgd hs.gr) hs.ro)
            clear hs hrd hgd c1 c2 c3 c4 c5 c6
            go_wp2_with fail
            go_region
            all_goals
              go_wp2
              refine ⟨⟨j - 1, by omega, by omega, by go_num, HS.out.1, L1, (xb, fb) :: L2, by simpa using HS.out.2, by simpa using HX.out.1, by have := HJ.out; omega, ?_⟩, by simp [intOf]; omega⟩
              intro y hy
              rcases List.mem_cons.1 hy with rfl | hy
              · exact decide_eq_true hlt2
              · exact HX.out.2 _ hy
          · have hcc := hc2 hlt2
            clear hc1 hc2
            clear c1 c2 c3 c4 c5 c6
            go_wp2
            refine ⟨⟨i + 1, by omega, by omega, by go_num, hg3, S1 ++ [(xa, fa)], S2, FIN.out (.inr ⟨L1, _, rfl, decide_eq_false hlt2⟩) _ (by simpa using HR4.out), by rw [HS0.out]; simp, .inl ⟨?_, by omega⟩⟩, by simp [intOf]; omega⟩
            have := HL.out; simp; omega
        · have hgt : decide ((j : Int) > (a : Int)) = false := by simp; omega
          have hgt2 : decide ((a : Int) < (j : Int)) = false := by simp; omega
          have hL0 : L1 = [] := List.length_eq_zero_iff.1 (by omega)
          have HF := Lib.hid (FIN.out (.inl hL0) wr hr2)
          have hg3 := gGrow hg2 0 #[]
          clear hj hr2 hL0
          go_wp2_with fail
          go_quiet (fail)
          go_wp2
          refine ⟨⟨i + 1, by omega, by omega, by go_num, ?_, S1 ++ [(xa, fa)], S2, HF.out.drewN _, by rw [HS0.out]; simp, .inl ⟨?_, by omega⟩⟩, by simp [intOf]; omega⟩
          · have := gGrow hg2 nq #[]; rwa [grow_empty] at this
          · have := HL.out; simp; omega
    · have h2 : S2 = [] := by
        rcases hi with ⟨h2, h3⟩ | ⟨h2, h3⟩
        · have h1 := HH.out.2
          rw [hS, List.length_append] at h1
          exact List.length_eq_zero_iff.1 (by omega)
        · exact h2
      subst h2
      rw [List.append_nil] at hS hrr
      have HR := Lib.hid (hS ▸ hrr)
      clear hS hrr hr hi
      go_wp2
      go_end0
      exact ⟨rfl, hg, HR.out⟩
end Go.Proofs.YtmngghglcgmkeaaGreatDoor.Mo

namespace Go.Proofs.YtmngghglcgmkeaaGreatDoor.Mo
open Go.RowKit Go.Sort Go.BigFrame

/-- The key of element t. -/
def ke (l : List Mv) (t : Nat) : Int := (l[t]?.map (·.1)).getD 0
theorem ke_some {l : List Mv} {t : Nat} {x : Mv} (h : l[t]? = some x) : ke l t = x.1 := by simp [ke, h]
theorem ke_le {l : List Mv} (h : Srt lt l) {i j : Nat} (hij : i ≤ j) (hj : j < l.length) : ke l i ≤ ke l j := by
  obtain ⟨x, hx⟩ : ∃ x, l[i]? = some x := ⟨_, List.getElem?_eq_getElem (by omega)⟩
  obtain ⟨y, hy⟩ : ∃ x, l[j]? = some x := ⟨_, List.getElem?_eq_getElem hj⟩
  rw [ke_some hx, ke_some hy]
  rcases Nat.lt_or_eq_of_le hij with h1 | h1
  · have := List.pairwise_iff_getElem.1 h i j (by omega) hj h1
    rw [List.getElem?_eq_getElem (by omega)] at hx hy
    cases hx; cases hy
    simpa [lt] using this
  · subst h1; rw [hx] at hy; cases hy; exact Int.le_refl _
theorem ke_app {P Q S : List Mv} {p t : Nat} (hp : P.length = p) (ht : t < Q.length) : ke (P ++ Q ++ S) (p + t) = ke Q t := by
  subst hp
  unfold ke
  rw [List.append_assoc, List.getElem?_append_right (by omega), Nat.add_sub_cancel_left, List.getElem?_append_left ht]
theorem mem_take_ke {l : List Mv} {n : Nat} {y : Mv} (h : y ∈ l.take n) : ∃ t, t < n ∧ t < l.length ∧ ke l t = y.1 := by
  obtain ⟨t, ht, rfl⟩ := List.mem_iff_getElem.1 h
  rw [List.length_take] at ht
  refine ⟨t, by omega, by omega, ?_⟩
  rw [List.getElem_take]
  exact ke_some (List.getElem?_eq_getElem (by omega))
theorem mem_drop_ke {l : List Mv} {n : Nat} {y : Mv} (h : y ∈ l.drop n) : ∃ t, n ≤ t ∧ t < l.length ∧ ke l t = y.1 := by
  obtain ⟨t, ht, rfl⟩ := List.mem_iff_getElem.1 h
  rw [List.length_drop] at ht
  refine ⟨n + t, by omega, by omega, ?_⟩
  rw [List.getElem_drop]
  exact ke_some (List.getElem?_eq_getElem (by omega))

/-- Two sorted ranges that touch, in a row. -/
structure Two (D A L R Z : List Mv) (a m b N : Nat) : Prop where
  eq : D = A ++ L ++ R ++ Z
  len : D.length = N
  la : A.length = a
  lm : a + L.length = m
  lb : m + R.length = b
  sl : Srt lt L
  sr : Srt lt R
section
variable {D A L R Z : List Mv} {a m b N : Nat}
theorem Two.keL (h : Two D A L R Z a m b N) {t : Nat} (ht : t < L.length) : ke D (a + t) = ke L t := by
  rw [h.eq, List.append_assoc (A ++ L) R Z]
  exact ke_app h.la ht
theorem Two.keR (h : Two D A L R Z a m b N) {t : Nat} (ht : t < R.length) : ke D (m + t) = ke R t := by
  rw [h.eq]
  exact ke_app (by rw [List.length_append, h.la, h.lm]) ht
theorem Two.leL (h : Two D A L R Z a m b N) {i j : Nat} (hi : a ≤ i) (hij : i ≤ j) (hj : j < m) : ke D i ≤ ke D j := by
  have h1 := h.keL (t := i - a) (by have := h.lm; omega)
  have h2 := h.keL (t := j - a) (by have := h.lm; omega)
  rw [show a + (i - a) = i by omega] at h1
  rw [show a + (j - a) = j by omega] at h2
  rw [h1, h2]
  exact ke_le h.sl (by omega) (by have := h.lm; omega)
theorem Two.leR (h : Two D A L R Z a m b N) {i j : Nat} (hi : m ≤ i) (hij : i ≤ j) (hj : j < b) : ke D i ≤ ke D j := by
  have h1 := h.keR (t := i - m) (by have := h.lb; omega)
  have h2 := h.keR (t := j - m) (by have := h.lb; omega)
  rw [show m + (i - m) = i by omega] at h1
  rw [show m + (j - m) = j by omega] at h2
  rw [h1, h2]
  exact ke_le h.sr (by omega) (by have := h.lb; omega)
theorem Two.bn (h : Two D A L R Z a m b N) : b ≤ N := by
  have := congrArg List.length h.eq
  simp only [List.length_append] at this
  have h1 := h.len; have h2 := h.la; have h3 := h.lm; have h4 := h.lb
  omega
/-- Where both are cut so that the fronts lie ahead of the backs. -/
theorem Two.cut (h : Two D A L R Z a m b N) (s t : Nat) (ha : a ≤ s) (hm : m ≤ t) (h1 : ∀ i j, a ≤ i → i < s → t ≤ j → j < b → ke D i ≤ ke D j) (h2 : ∀ i j, s ≤ i → i < m → m ≤ j → j < t → ke D j < ke D i) :
    mg lt L R = mg lt (L.take (s - a)) (R.take (t - m)) ++ mg lt (L.drop (s - a)) (R.drop (t - m)) := by
  have hlm := h.lm
  have hlb := h.lb
  conv => lhs; rw [← List.take_append_drop (s - a) L, ← List.take_append_drop (t - m) R]
  refine mg_split _ _ _ _ (fun x hx y hy => ?_) (fun y hy x hx => ?_)
  · obtain ⟨i, hi1, hi2, hi3⟩ := mem_take_ke hx
    obtain ⟨j, hj1, hj2, hj3⟩ := mem_drop_ke hy
    have := h1 (a + i) (m + j) (by omega) (by omega) (by omega) (by omega)
    rw [h.keL hi2, h.keR hj2, hi3, hj3] at this
    exact decide_eq_false (by omega)
  · obtain ⟨i, hi1, hi2, hi3⟩ := mem_drop_ke hx
    obtain ⟨j, hj1, hj2, hj3⟩ := mem_take_ke hy
    have := h2 (a + i) (m + j) (by omega) (by omega) (by omega) (by omega)
    rw [h.keL hi2, h.keR hj2, hi3, hj3] at this
    exact decide_eq_true (by omega)
end

theorem mg_one {x : Mv} {R : List Mv} (h : ∀ y ∈ R, lt y x = false) : mg lt [x] R = x :: R := by
  have := mg_split (lt := lt) [x] [] [] R (fun l hl y hy => by rw [List.mem_singleton.1 hl]; exact h y hy) (fun y hy => by cases hy)
  simpa using this
theorem mg_last {y : Mv} {L : List Mv} (h : ∀ x ∈ L, lt y x = true) : mg lt L [y] = y :: L := by
  have := mg_split (lt := lt) [] L [y] [] (fun x hx => by cases hx) (fun x hx l hl => by rw [List.mem_singleton.1 hx]; exact h l hl)
  simpa using this
theorem Two.one {D A L R Z : List Mv} {a m b N : Nat} (h : Two D A L R Z a m b N) {x : Mv} {i : Nat} (hx : D[a]? = some x) (h1 : m = a + 1) (hmi : m ≤ i) (hib : i ≤ b) (hlo : ∀ t, m ≤ t → t < i → ke D t < x.1) (hhi : ∀ t, i ≤ t → t < b → x.1 ≤ ke D t) :
    ∃ R1 R2, R = R1 ++ R2 ∧ R1.length + m = i ∧ D = A ++ x :: (R1 ++ R2 ++ Z) ∧ mg lt L R = R1 ++ x :: R2 := by
  have hL : L = [x] := by
    have h2 := h.lm
    rcases L with _ | ⟨y, _ | ⟨z, L⟩⟩
    · simp at h2; omega
    · have h3 := hx
      rw [h.eq, show A ++ [y] ++ R ++ Z = A ++ y :: (R ++ Z) by simp, get_mid _ _ _ h.la] at h3
      cases h3; rfl
    · simp at h2; omega
  have hc := h.cut a i (Nat.le_refl _) hmi (fun _ _ h1 h2 => by omega) (fun i' j' h2 h3 h4 h5 => by
    have : i' = a := by omega
    subst this
    rw [ke_some hx]; exact hlo _ h4 h5)
  refine ⟨R.take (i - m), R.drop (i - m), (List.take_append_drop _ _).symm, by rw [List.length_take]; have := h.lb; omega, ?_, ?_⟩
  · rw [List.take_append_drop, h.eq, hL]; simp
  · rw [hc, hL, Nat.sub_self, List.take_zero, List.drop_zero, mg_nil, mg_one]
    intro y hy
    obtain ⟨t, ht1, ht2, ht3⟩ := mem_drop_ke hy
    have h6 := hhi (m + t) (by omega) (by have := h.lb; omega)
    rw [h.keR ht2, ht3] at h6
    exact decide_eq_false (by omega)

set_option maxHeartbeats 8000000 in
set_option maxRecDepth 100000 in
theorem symMerge_one (g cap N a m b : Nat) (D A L R Z : List Mv) (w : World) (h2 : Two D A L R Z a m b N) (hn : N ≤ 1000000) (h1 : m = a + 1) (hmb : m < b) (hr : RowM g cap D w) :
    Calls Tryz.prog 105 #[.slice (some ⟨g, 0, none⟩) N cap, .int .i64 a, .int .i64 m, .int .i64 b, .func (.func 42) #[] #[]] w fun e w' =>
      e = .returned (.tuple #[]) ∧ w.grownBy w' (some g) ∧ RowM g cap (A ++ mg lt L R ++ Z) w' := by
  have hbN := h2.bn
  have w0 : IntKind.i64.wrap ((m : Int) - a) = 1 := by rw [IntWalk.i64_in _ (by omega)]; omega
  obtain ⟨⟨xa, fa⟩, hxa⟩ : ∃ x, D[a]? = some x := ⟨_, List.getElem?_eq_getElem (by have := h2.len; omega)⟩
  have ham : a < m := by omega
  have haN : (a : Int) < (N : Int) := by omega
  have H1 := Lib.hid h1
  clear h1
  go_enter Tryz.func105, Tryz.ntmps105
  go_wp2
  go_loopw [10, 11] (fun iv jv wr => ∃ i j : Nat, m ≤ i ∧ i ≤ j ∧ j ≤ b ∧ iv = .int .i64 i ∧ jv = .int .i64 j ∧ w.grownBy wr (some g) ∧ RowM g cap D wr ∧ (∀ t, m ≤ t → t < i → ke D t < xa) ∧ (∀ t, j ≤ t → t < b → xa ≤ ke D t)) (fun iv jv _ => (intOf jv).toNat - (intOf iv).toNat)
  case atStart => exact ⟨m, b, by omega, by omega, by omega, rfl, rfl, World.grownBy.refl _ _, hr, fun t h3 h4 => (by omega), fun t h3 h4 => (by omega)⟩
  case round =>
    obtain ⟨i, j, hmi, hij, hjb, rfl, rfl, hg, hrr, hlo, hhi⟩ := hrel
    by_cases hlt : i < j
    · obtain ⟨h, hh⟩ : ∃ h, (i + j) / 2 = h := ⟨_, rfl⟩
      obtain ⟨⟨xh, fh⟩, hxh⟩ : ∃ x, D[h]? = some x := ⟨_, List.getElem?_eq_getElem (by have := h2.len; omega)⟩
      have wi : IntKind.i64.wrap ((i : Int) + j) = (i : Int) + j := IntWalk.i64_in _ (by omega)
      have hzz : ((i : Int) + j) / 2 = (h : Int) := by omega
      have hih : i ≤ h := by omega
      have hhj : h < j := by omega
      obtain ⟨pa, hpa⟩ : ∃ p, a * 3 = p := ⟨_, rfl⟩
      obtain ⟨ph, hph⟩ : ∃ p, h * 3 = p := ⟨_, rfl⟩
      have hgw := hrr.lt
      have c1 : ∀ n os, (Sort.grow (wr.drewN n) os).cell? ⟨g, pa, none⟩ = some (.int .i64 xa) := fun n os => cell_grown hgw (hpa ▸ Rw.cell hrr hxa (j := 0) rfl) n os
      have c2 : ∀ n os, (Sort.grow (wr.drewN n) os).cell? ⟨g, pa + 1, none⟩ = some (.int .i64 fa.1) := fun n os => cell_grown hgw (hpa ▸ Rw.cell hrr hxa (j := 1) rfl) n os
      have c3 : ∀ n os, (Sort.grow (wr.drewN n) os).cell? ⟨g, pa + 2, none⟩ = some (.int .i64 fa.2) := fun n os => cell_grown hgw (hpa ▸ Rw.cell hrr hxa (j := 2) rfl) n os
      have c4 : ∀ n os, (Sort.grow (wr.drewN n) os).cell? ⟨g, ph, none⟩ = some (.int .i64 xh) := fun n os => cell_grown hgw (hph ▸ Rw.cell hrr hxh (j := 0) rfl) n os
      have c5 : ∀ n os, (Sort.grow (wr.drewN n) os).cell? ⟨g, ph + 1, none⟩ = some (.int .i64 fh.1) := fun n os => cell_grown hgw (hph ▸ Rw.cell hrr hxh (j := 1) rfl) n os
      have c6 : ∀ n os, (Sort.grow (wr.drewN n) os).cell? ⟨g, ph + 2, none⟩ = some (.int .i64 fh.2) := fun n os => cell_grown hgw (hph ▸ Rw.cell hrr hxh (j := 2) rfl) n os
      have hke := ke_some hxh
      have lo : xh < xa → ∀ t, m ≤ t → t < h + 1 → ke D t < xa := fun h3 t h4 h5 => by
        have := h2.leR (i := t) (j := h) h4 (by omega) (by omega)
        have h6 : ke D h = xh := hke
        omega
      have hi : ¬ xh < xa → ∀ t, h ≤ t → t < b → xa ≤ ke D t := fun h3 t h4 h5 => by
        have := h2.leR (i := h) (j := t) (by omega) h4 h5
        have h6 : ke D h = xh := hke
        omega
      have KK := Lib.hid (And.intro lo (And.intro hi (And.intro hlo hhi)))
      have HH := Lib.hid hh
      have HR := Lib.hid hrr
      clear lo hi hlo hhi hke hxh hrr hr hh
      go_wp2_with fail
      refine wp_region_quiet_grown (by kernel_rfl) (by kernel_rfl) ?_
      repeat (go_big_quiet_step (refine Calls.grown_of (cmpK' xh xa fh fa _)))
      refine wpQuiet_nil ?_
      intro _ hw'
      obtain ⟨⟨nq, osq⟩, hw''⟩ := hw'
      subst hw''
      have hg3 := gGrow hg nq osq
      have hr4 : RowM g cap _ _ := Rw.grow (HR.out.drewN nq) osq
      have HR4 := Lib.hid hr4
      clear hr4 c1 c2 c3 c4 c5 c6
      obtain ⟨hc1, hc2⟩ := cf_neg xh xa
      generalize cf xh xa = cc at *
      generalize Sort.grow (wr.drewN nq) osq = wq at *
      by_cases hlt2 : xh < xa
      · have hcc := hc1 hlt2
        clear hc1 hc2
        go_wp2
        exact ⟨⟨h + 1, j, by omega, by omega, by omega, by go_num, rfl, hg3, HR4.out, KK.out.1 (by omega), KK.out.2.2.2⟩, by simp [intOf]; omega⟩
      · have hcc := hc2 hlt2
        clear hc1 hc2
        go_wp2
        exact ⟨⟨i, h, by omega, by omega, by omega, rfl, rfl, hg3, HR4.out, KK.out.2.2.1, KK.out.2.1 (by omega)⟩, by simp [intOf]; omega⟩
    · have hij2 : i = j := by omega
      subst hij2
      obtain ⟨R1, R2, hR, hRl, hD, hM⟩ := h2.one hxa H1.out hmi hjb hlo hhi
      have HM := Lib.hid (And.intro hM (And.intro hR hRl))
      have hla := h2.la
      have HA := Lib.hid hla
      have hN2 : ∀ P1 P2 : List Mv, R1 = P1 ++ P2 → (A ++ P1).length + P2.length + 1 ≤ N := fun P1 P2 h => by
        have h3 := h2.len
        rw [hD] at h3
        rw [h] at h3
        simp only [List.length_append, List.length_cons] at h3 ⊢
        omega
      have HN := Lib.hid hN2
      rw [hD] at hrr
      have HR := Lib.hid hrr
      clear hD hrr hr hM hR hRl hlo hhi hxa hla hN2 hlt
      have wi1 : IntKind.i64.wrap ((i : Int) - 1) = (i : Int) - 1 := IntWalk.i64_in _ (by omega)
      obtain ⟨wo, rfl⟩ : ∃ wo : World, wo = wr := ⟨_, rfl⟩
      go_wp2
      go_loopw [13] (fun kv wr => ∃ k : Nat, a ≤ k ∧ k < i ∧ kv = .int .i64 k ∧ w.grownBy wr (some g) ∧ ∃ P1 P2 : List Mv, R1 = P1 ++ P2 ∧ a + P1.length = k ∧ RowM g cap ((A ++ P1) ++ (xa, fa) :: (P2 ++ R2 ++ Z)) wr) (fun kv _ => i - (intOf kv).toNat)
      case atStart => exact ⟨a, by omega, by omega, rfl, hg, [], R1, rfl, by simp, by simpa using HR.out⟩
      case round =>
        obtain ⟨k, hak, hki, rfl, hg2, P1, P2, hR1, hk, hr2⟩ := hrel
        have HK := Lib.hid hk
        have HR1 := Lib.hid hR1
        have hlP : P1.length + P2.length + m = i := by
          have := HM.out.2.2; rw [hR1, List.length_append] at this; exact this
        by_cases hki2 : k + 1 < i
        · have hkk : (k : Int) < (i : Int) - 1 := by omega
          obtain ⟨⟨xb, fb⟩, P2, rfl⟩ := List.exists_cons_of_length_pos (show 0 < P2.length by have := H1.out; omega)
          have hr3 : RowM g cap ((A ++ P1) ++ (xa, fa) :: ([] ++ (xb, fb) :: (P2 ++ R2 ++ Z))) wr := by simpa using hr2
          have hAP : (A ++ P1).length = k := by rw [List.length_append, HA.out, hk]
          have gx := get_mid (A ++ P1) ([] ++ (xb, fb) :: (P2 ++ R2 ++ Z)) (xa, fa) hAP
          have gy : ((A ++ P1) ++ (xa, fa) :: ([] ++ (xb, fb) :: (P2 ++ R2 ++ Z)))[k + 1]? = some (xb, fb) := by
            have := get_mid ((A ++ P1) ++ [(xa, fa)]) (P2 ++ R2 ++ Z) (xb, fb) (n := k + 1) (by rw [List.length_append, hAP]; rfl)
            simpa using this
          obtain ⟨pa, hpa⟩ : ∃ p, k * 3 = p := ⟨_, rfl⟩
          obtain ⟨pb, hpb⟩ : ∃ p, (k + 1) * 3 = p := ⟨_, rfl⟩
          obtain ⟨wd, hwd⟩ : ∃ x, wr.drew = x := ⟨_, rfl⟩
          have hrd : RowM g cap ((A ++ P1) ++ (xa, fa) :: ([] ++ (xb, fb) :: (P2 ++ R2 ++ Z))) wd := by rw [← hwd]; exact hr3
          obtain ⟨w1, w2, hs⟩ := hrd.swp (i := k) (j := k + 1) hAP (by simp) hpa hpb
          have hgd : w.grownBy wd (some g) := by rw [← hwd]; exact gDrew hg2
          have sa0 : wd.cell? ⟨g, pa, none⟩ = some (.int .i64 xa) := hs.ca 0 _ rfl
          have sa1 : wd.cell? ⟨g, pa + 1, none⟩ = some (.int .i64 fa.1) := hs.ca 1 _ rfl
          have sa2 : wd.cell? ⟨g, pa + 2, none⟩ = some (.int .i64 fa.2) := hs.ca 2 _ rfl
          have sb0 : wd.cell? ⟨g, pb, none⟩ = some (.int .i64 xb) := hs.cb 0 _ rfl
          have sb1 : wd.cell? ⟨g, pb + 1, none⟩ = some (.int .i64 fb.1) := hs.cb 1 _ rfl
          have sb2 : wd.cell? ⟨g, pb + 2, none⟩ = some (.int .i64 fb.2) := hs.cb 2 _ rfl
          have fa0 : wd.frozen? ⟨g, pa, none⟩ = false := hs.fz _
          have fa1 : wd.frozen? ⟨g, pa + 1, none⟩ = false := hs.fz _
          have fa2 : wd.frozen? ⟨g, pa + 2, none⟩ = false := hs.fz _
          obtain ⟨zb0, sc0⟩ : ∃ u, w1.cell? ⟨g, pb, none⟩ = some u := hs.c1 0 (by omega)
          have fb0 : w1.frozen? ⟨g, pb, none⟩ = false := hs.f1 _
          obtain ⟨zb1, sc1⟩ : ∃ u, w1.cell? ⟨g, pb + 1, none⟩ = some u := hs.c1 1 (by omega)
          have fb1 : w1.frozen? ⟨g, pb + 1, none⟩ = false := hs.f1 _
          obtain ⟨zb2, sc2⟩ : ∃ u, w1.cell? ⟨g, pb + 2, none⟩ = some u := hs.c1 2 (by omega)
          have fb2 : w1.frozen? ⟨g, pb + 2, none⟩ = false := hs.f1 _
          have he1 : ((wd.setCell ⟨g, pa, none⟩ (.int .i64 xb)).setCell ⟨g, pa + 1, none⟩ (.int .i64 fb.1)).setCell ⟨g, pa + 2, none⟩ (.int .i64 fb.2) = w1 := hs.e1
          have he2 : ((w1.setCell ⟨g, pb, none⟩ (.int .i64 xa)).setCell ⟨g, pb + 1, none⟩ (.int .i64 fa.1)).setCell ⟨g, pb + 2, none⟩ (.int .i64 fa.2) = w2 := hs.e2
          have v5 : IntKind.i64.wrap ((k : Int) + 1) = (k : Int) + 1 := IntWalk.i64_in _ (by omega)
          have v6 : ((k : Int) + 1).toNat = k + 1 := by omega
          have hkn : (k : Int) + 1 < (N : Int) := by omega
          have HS := Lib.hid (And.intro (gTrans hgd hs.gr) hs.ro)
          clear hs hrd hgd hr2 hr3 hAP gx gy hk hR1 hlP
          go_wp2_with fail
          go_region
          all_goals
            go_wp2
            refine ⟨⟨k + 1, by omega, by omega, by go_num, HS.out.1, P1 ++ [(xb, fb)], P2, by rw [HR1.out]; simp, by have := HK.out; simp; omega, by simpa using HS.out.2⟩, by simp [intOf]; omega⟩
        · have hP2 : P2 = [] := List.length_eq_zero_iff.1 (by have := H1.out; omega)
          have hfin : RowM g cap (A ++ mg lt L R ++ Z) wr := by
            rw [HM.out.1, HR1.out, hP2]
            simpa [hP2] using hr2
          have HF := Lib.hid hfin
          have hkk : ¬ (k : Int) < (i : Int) - 1 := by omega
          clear hfin hr2 hP2 hlP hk hR1
          go_wp2
          refine bodyPost_ret (results_none rfl _ _ _) rfl ?_
          exact ⟨rfl, hg2, by have := HF.out; simpa using this⟩
end Go.Proofs.YtmngghglcgmkeaaGreatDoor.Mo

namespace Go.Proofs.YtmngghglcgmkeaaGreatDoor.Mo
open Go.RowKit Go.Sort Go.BigFrame

theorem Two.last {D A L R Z : List Mv} {a m b N : Nat} (h : Two D A L R Z a m b N) {y : Mv} {i : Nat} (hy : D[m]? = some y) (h1 : b = m + 1) (hai : a ≤ i) (him : i ≤ m) (hlo : ∀ t, a ≤ t → t < i → ke D t ≤ y.1) (hhi : ∀ t, i ≤ t → t < m → y.1 < ke D t) :
    ∃ L1 L2, L = L1 ++ L2 ∧ a + L1.length = i ∧ i + L2.length = m ∧ D = (A ++ L1 ++ L2) ++ y :: Z ∧ mg lt L R = L1 ++ y :: L2 := by
  have hla := h.la
  have hlm := h.lm
  have hR : R = [y] := by
    have h2 := h.lb
    rcases R with _ | ⟨z, _ | ⟨z2, R⟩⟩
    · simp at h2; omega
    · have h3 := hy
      rw [h.eq, show A ++ L ++ [z] ++ Z = (A ++ L) ++ z :: Z by simp, get_mid _ _ _ (by rw [List.length_append]; omega)] at h3
      cases h3; rfl
    · simp at h2; omega
  have hc := h.cut i b hai (by omega) (fun i' j' _ h3 h4 h5 => by omega) (fun i' j' h2 h3 h4 h5 => by
    have : j' = m := by omega
    subst this
    rw [ke_some hy]; exact hhi _ h2 h3)
  refine ⟨L.take (i - a), L.drop (i - a), (List.take_append_drop _ _).symm, by rw [List.length_take]; omega, by rw [List.length_drop]; omega, ?_, ?_⟩
  · rw [List.append_assoc A, List.take_append_drop, h.eq, hR]; simp
  · have e : b - m = 1 := by omega
    have hc2 := h.cut i m hai (by omega) (fun i' j' h2 h3 h4 h5 => by
      have : j' = m := by omega
      subst this
      rw [ke_some hy]; exact hlo _ h2 h3) (fun i' j' _ h3 h4 h5 => by omega)
    rw [hc2, Nat.sub_self, List.take_zero, List.drop_zero, nil_mg, hR, mg_last]
    intro x hx
    obtain ⟨t, ht1, ht2, ht3⟩ := mem_drop_ke hx
    have h6 := hhi (a + t) (by omega) (by omega)
    rw [h.keL ht2, ht3] at h6
    exact decide_eq_true (by omega)

set_option maxHeartbeats 8000000 in
set_option maxRecDepth 100000 in
theorem symMerge_last (g cap N a m b : Nat) (D A L R Z : List Mv) (w : World) (h2 : Two D A L R Z a m b N) (hn : N ≤ 1000000) (h1 : b = m + 1) (ham : a + 1 < m) (hr : RowM g cap D w) :
    Calls Tryz.prog 105 #[.slice (some ⟨g, 0, none⟩) N cap, .int .i64 a, .int .i64 m, .int .i64 b, .func (.func 42) #[] #[]] w fun e w' =>
      e = .returned (.tuple #[]) ∧ w.grownBy w' (some g) ∧ RowM g cap (A ++ mg lt L R ++ Z) w' := by
  have hbN := h2.bn
  have w0 : IntKind.i64.wrap ((m : Int) - a) = (m : Int) - a := IntWalk.i64_in _ (by omega)
  have w0' : IntKind.i64.wrap ((b : Int) - m) = 1 := by rw [IntWalk.i64_in _ (by omega)]; omega
  obtain ⟨⟨xa, fa⟩, hxa⟩ : ∃ x, D[m]? = some x := ⟨_, List.getElem?_eq_getElem (by have := h2.len; omega)⟩
  have hmN : (m : Int) < (N : Int) := by omega
  have hb1 : ((m : Int) - a == 1) = false := by simp; omega
  have H1 := Lib.hid h1
  clear h1
  go_enter Tryz.func105, Tryz.ntmps105
  go_wp2
  go_loopw [14, 15] (fun iv jv wr => ∃ i j : Nat, a ≤ i ∧ i ≤ j ∧ j ≤ m ∧ iv = .int .i64 i ∧ jv = .int .i64 j ∧ w.grownBy wr (some g) ∧ RowM g cap D wr ∧ (∀ t, a ≤ t → t < i → ke D t ≤ xa) ∧ (∀ t, j ≤ t → t < m → xa < ke D t)) (fun iv jv _ => (intOf jv).toNat - (intOf iv).toNat)
  case atStart => exact ⟨a, m, by omega, by omega, by omega, rfl, rfl, World.grownBy.refl _ _, hr, fun t h3 h4 => (by omega), fun t h3 h4 => (by omega)⟩
  case round =>
    obtain ⟨i, j, hai, hij, hjm, rfl, rfl, hg, hrr, hlo, hhi⟩ := hrel
    by_cases hlt : i < j
    · obtain ⟨h, hh⟩ : ∃ h, (i + j) / 2 = h := ⟨_, rfl⟩
      obtain ⟨⟨xh, fh⟩, hxh⟩ : ∃ x, D[h]? = some x := ⟨_, List.getElem?_eq_getElem (by have := h2.len; omega)⟩
      have wi : IntKind.i64.wrap ((i : Int) + j) = (i : Int) + j := IntWalk.i64_in _ (by omega)
      have hzz : ((i : Int) + j) / 2 = (h : Int) := by omega
      have hih : i ≤ h := by omega
      have hhj : h < j := by omega
      obtain ⟨pa, hpa⟩ : ∃ p, m * 3 = p := ⟨_, rfl⟩
      obtain ⟨ph, hph⟩ : ∃ p, h * 3 = p := ⟨_, rfl⟩
      have hgw := hrr.lt
      have c1 : ∀ n os, (Sort.grow (wr.drewN n) os).cell? ⟨g, pa, none⟩ = some (.int .i64 xa) := fun n os => cell_grown hgw (hpa ▸ Rw.cell hrr hxa (j := 0) rfl) n os
      have c2 : ∀ n os, (Sort.grow (wr.drewN n) os).cell? ⟨g, pa + 1, none⟩ = some (.int .i64 fa.1) := fun n os => cell_grown hgw (hpa ▸ Rw.cell hrr hxa (j := 1) rfl) n os
      have c3 : ∀ n os, (Sort.grow (wr.drewN n) os).cell? ⟨g, pa + 2, none⟩ = some (.int .i64 fa.2) := fun n os => cell_grown hgw (hpa ▸ Rw.cell hrr hxa (j := 2) rfl) n os
      have c4 : ∀ n os, (Sort.grow (wr.drewN n) os).cell? ⟨g, ph, none⟩ = some (.int .i64 xh) := fun n os => cell_grown hgw (hph ▸ Rw.cell hrr hxh (j := 0) rfl) n os
      have c5 : ∀ n os, (Sort.grow (wr.drewN n) os).cell? ⟨g, ph + 1, none⟩ = some (.int .i64 fh.1) := fun n os => cell_grown hgw (hph ▸ Rw.cell hrr hxh (j := 1) rfl) n os
      have c6 : ∀ n os, (Sort.grow (wr.drewN n) os).cell? ⟨g, ph + 2, none⟩ = some (.int .i64 fh.2) := fun n os => cell_grown hgw (hph ▸ Rw.cell hrr hxh (j := 2) rfl) n os
      have hke := ke_some hxh
      have lo : ¬ xa < xh → ∀ t, a ≤ t → t < h + 1 → ke D t ≤ xa := fun h3 t h4 h5 => by
        have := h2.leL (i := t) (j := h) h4 (by omega) (by omega)
        have h6 : ke D h = xh := hke
        omega
      have hi : xa < xh → ∀ t, h ≤ t → t < m → xa < ke D t := fun h3 t h4 h5 => by
        have := h2.leL (i := h) (j := t) (by omega) h4 h5
        have h6 : ke D h = xh := hke
        omega
      have KK := Lib.hid (And.intro lo (And.intro hi (And.intro hlo hhi)))
      have HH := Lib.hid hh
      have HR := Lib.hid hrr
      clear lo hi hlo hhi hke hxh hrr hr hh
      go_wp2_with fail
      refine wp_region_quiet_grown (by kernel_rfl) (by kernel_rfl) ?_
      repeat (go_big_quiet_step (refine Calls.grown_of (cmpK' xa xh fa fh _)))
      refine wpQuiet_nil ?_
      intro _ hw'
      obtain ⟨⟨nq, osq⟩, hw''⟩ := hw'
      subst hw''
      have hg3 := gGrow hg nq osq
      have hr4 : RowM g cap _ _ := Rw.grow (HR.out.drewN nq) osq
      have HR4 := Lib.hid hr4
      clear hr4 c1 c2 c3 c4 c5 c6
      obtain ⟨hc1, hc2⟩ := cf_neg xa xh
      generalize cf xa xh = cc at *
      generalize Sort.grow (wr.drewN nq) osq = wq at *
      by_cases hlt2 : xa < xh
      · have hcc := hc1 hlt2
        have hd : decide (cc < 0) = true := decide_eq_true hcc
        clear hc1 hc2
        rw [hd]
        clear hd
        go_wp2
        exact ⟨⟨i, h, by omega, by omega, by omega, rfl, rfl, hg3, HR4.out, KK.out.2.2.1, KK.out.2.1 (by omega)⟩, by simp [intOf]; omega⟩
      · have hcc := hc2 hlt2
        have hd : decide (cc < 0) = false := decide_eq_false (by omega)
        clear hc1 hc2
        rw [hd]
        clear hd
        go_wp2
        exact ⟨⟨h + 1, j, by omega, by omega, by omega, by go_num, rfl, hg3, HR4.out, KK.out.1 (by omega), KK.out.2.2.2⟩, by simp [intOf]; omega⟩
    · have hij2 : i = j := by omega
      subst hij2
      obtain ⟨L1, L2, hL, hL1, hL2, hD, hM⟩ := h2.last hxa H1.out hai hjm hlo hhi
      have HM := Lib.hid (And.intro hM (And.intro hL (And.intro hL1 hL2)))
      have hla := h2.la
      have HA := Lib.hid hla
      rw [hD] at hrr
      have HR := Lib.hid hrr
      clear hD hrr hr hM hL hL1 hL2 hlo hhi hxa hla hlt
      obtain ⟨wo, rfl⟩ : ∃ wo : World, wo = wr := ⟨_, rfl⟩
      go_wp2
      go_loopw [17] (fun kv wr => ∃ k : Nat, i ≤ k ∧ k ≤ m ∧ kv = .int .i64 k ∧ w.grownBy wr (some g) ∧ ∃ P1 P2 : List Mv, L2 = P1 ++ P2 ∧ i + P1.length = k ∧ RowM g cap ((A ++ L1 ++ P1) ++ (xa, fa) :: (P2 ++ Z)) wr) (fun kv _ => (intOf kv).toNat)
      case atStart => exact ⟨m, by omega, by omega, rfl, hg, L2, [], by simp, by have := HM.out; omega, by simpa using HR.out⟩
      case round =>
        obtain ⟨k, hik, hkm, rfl, hg2, P1, P2, hL2, hk, hr2⟩ := hrel
        have HK := Lib.hid hk
        have HL2 := Lib.hid hL2
        by_cases hki2 : i < k
        · obtain ⟨P1, ⟨xb, fb⟩, rfl⟩ : ∃ L z, P1 = L ++ [z] := by
            rcases List.eq_nil_or_concat P1 with h | ⟨L, z, h⟩
            · subst h; rw [List.length_nil] at hk; omega
            · exact ⟨L, z, by rw [h, List.concat_eq_append]⟩
          rw [List.length_append, List.length_singleton] at hk
          have hr3 : RowM g cap ((A ++ L1 ++ P1) ++ (xb, fb) :: ([] ++ (xa, fa) :: (P2 ++ Z))) wr := by simpa using hr2
          have hAP : (A ++ L1 ++ P1).length = k - 1 := by rw [List.length_append, List.length_append]; have := HM.out; have := HA.out; omega
          have gy := get_mid (A ++ L1 ++ P1) ([] ++ (xa, fa) :: (P2 ++ Z)) (xb, fb) hAP
          have gx : ((A ++ L1 ++ P1) ++ (xb, fb) :: ([] ++ (xa, fa) :: (P2 ++ Z)))[k]? = some (xa, fa) := by
            have := get_mid ((A ++ L1 ++ P1) ++ [(xb, fb)]) (P2 ++ Z) (xa, fa) (n := k) (by rw [List.length_append, hAP, List.length_singleton]; omega)
            simpa using this
          obtain ⟨pa, hpa⟩ : ∃ p, k * 3 = p := ⟨_, rfl⟩
          obtain ⟨pb, hpb⟩ : ∃ p, (k - 1) * 3 = p := ⟨_, rfl⟩
          obtain ⟨wd, hwd⟩ : ∃ x, wr.drew = x := ⟨_, rfl⟩
          have hrd : RowM g cap ((A ++ L1 ++ P1) ++ (xb, fb) :: ([] ++ (xa, fa) :: (P2 ++ Z))) wd := by rw [← hwd]; exact hr3
          obtain ⟨w1, w2, hs⟩ := hrd.swpUp (i := k - 1) (j := k) hAP (by simp; omega) hpa hpb
          have hgd : w.grownBy wd (some g) := by rw [← hwd]; exact gDrew hg2
          have sa0 : wd.cell? ⟨g, pa, none⟩ = some (.int .i64 xa) := hs.ca 0 _ rfl
          have sa1 : wd.cell? ⟨g, pa + 1, none⟩ = some (.int .i64 fa.1) := hs.ca 1 _ rfl
          have sa2 : wd.cell? ⟨g, pa + 2, none⟩ = some (.int .i64 fa.2) := hs.ca 2 _ rfl
          have sb0 : wd.cell? ⟨g, pb, none⟩ = some (.int .i64 xb) := hs.cb 0 _ rfl
          have sb1 : wd.cell? ⟨g, pb + 1, none⟩ = some (.int .i64 fb.1) := hs.cb 1 _ rfl
          have sb2 : wd.cell? ⟨g, pb + 2, none⟩ = some (.int .i64 fb.2) := hs.cb 2 _ rfl
          have fa0 : wd.frozen? ⟨g, pa, none⟩ = false := hs.fz _
          have fa1 : wd.frozen? ⟨g, pa + 1, none⟩ = false := hs.fz _
          have fa2 : wd.frozen? ⟨g, pa + 2, none⟩ = false := hs.fz _
          obtain ⟨zb0, sc0⟩ : ∃ u, w1.cell? ⟨g, pb, none⟩ = some u := hs.c1 0 (by omega)
          have fb0 : w1.frozen? ⟨g, pb, none⟩ = false := hs.f1 _
          obtain ⟨zb1, sc1⟩ : ∃ u, w1.cell? ⟨g, pb + 1, none⟩ = some u := hs.c1 1 (by omega)
          have fb1 : w1.frozen? ⟨g, pb + 1, none⟩ = false := hs.f1 _
          obtain ⟨zb2, sc2⟩ : ∃ u, w1.cell? ⟨g, pb + 2, none⟩ = some u := hs.c1 2 (by omega)
          have fb2 : w1.frozen? ⟨g, pb + 2, none⟩ = false := hs.f1 _
          have he1 : ((wd.setCell ⟨g, pa, none⟩ (.int .i64 xb)).setCell ⟨g, pa + 1, none⟩ (.int .i64 fb.1)).setCell ⟨g, pa + 2, none⟩ (.int .i64 fb.2) = w1 := hs.e1
          have he2 : ((w1.setCell ⟨g, pb, none⟩ (.int .i64 xa)).setCell ⟨g, pb + 1, none⟩ (.int .i64 fa.1)).setCell ⟨g, pb + 2, none⟩ (.int .i64 fa.2) = w2 := hs.e2
          have v5 : IntKind.i64.wrap ((k : Int) - 1) = (k : Int) - 1 := IntWalk.i64_in _ (by omega)
          have v6 : ((k : Int) - 1).toNat = k - 1 := by omega
          have hkn : (k : Int) - 1 < (N : Int) := by omega
          have hkn0 : (0 : Int) ≤ (k : Int) - 1 := by omega
          have hkn2 : (k : Int) < (N : Int) := by omega
          have HS := Lib.hid (And.intro (gTrans hgd hs.gr) hs.ro)
          clear hs hrd hgd hr2 hr3 hAP gx gy hk hL2
          go_wp2_with fail
          go_region
          all_goals
            go_wp2
            refine ⟨⟨k - 1, by omega, by omega, by go_num, HS.out.1, P1, (xb, fb) :: P2, by rw [HL2.out]; simp, by have := HK.out; simp at this; omega, by simpa using HS.out.2⟩, by simp [intOf]; omega⟩
        · have hP1 : P1 = [] := List.length_eq_zero_iff.1 (by omega)
          have hfin : RowM g cap (A ++ mg lt L R ++ Z) wr := by
            rw [HM.out.1, HL2.out, hP1]
            simpa [hP1] using hr2
          have HF := Lib.hid hfin
          clear hfin hr2 hP1 hk hL2
          go_wp2
          refine bodyPost_ret (results_none rfl _ _ _) rfl ?_
          exact ⟨rfl, hg2, by have := HF.out; simpa using this⟩
end Go.Proofs.YtmngghglcgmkeaaGreatDoor.Mo

/- The stable sort of moves, by Go's text, second part. (gen/turnm.py.) -/
namespace Go.Proofs.YtmngghglcgmkeaaGreatDoor.Mo
open Go.RowKit Go.Sort Go.BigFrame

section
variable {D A L R Z : List Mv} {a m b N mid n s0 r0 : Nat}
/-- Where the search begins and ends. -/
def Ends (a m b mid n s0 r0 : Nat) : Prop := mid = (a + b) / 2 ∧ n = mid + m ∧ a + 1 < m ∧ m + 1 < b ∧ ((mid < m ∧ s0 = n - b ∧ r0 = mid) ∨ (m ≤ mid ∧ s0 = a ∧ r0 = m))
theorem Ends.rng (h : Ends a m b mid n s0 r0) : a ≤ s0 ∧ s0 ≤ r0 ∧ r0 ≤ m ∧ r0 ≤ mid ∧ a < mid ∧ mid < b ∧ n = mid + m := by
  obtain ⟨h1, h2, h3, h4, h5 | h5⟩ := h <;> omega
theorem Ends.at_ (h : Ends a m b mid n s0 r0) {c : Nat} (h1 : s0 ≤ c) (h2 : c < r0) : a ≤ c ∧ c < m ∧ c + 1 ≤ n ∧ m ≤ n - 1 - c ∧ n - 1 - c < b := by
  obtain ⟨h3, h4, h5, h6, h7 | h7⟩ := h <;> omega
theorem Two.lo (h : Two D A L R Z a m b N) (he : Ends a m b mid n s0 r0) {c : Nat} (h1 : s0 ≤ c) (h2 : c < r0) (hc : ke D c ≤ ke D (n - 1 - c)) : ∀ c', s0 ≤ c' → c' < c + 1 → ke D c' ≤ ke D (n - 1 - c') := fun c' h3 h4 => by
  have e1 := he.at_ h1 h2
  have e2 := he.at_ h3 (show c' < r0 by omega)
  have l1 := h.leL (i := c') (j := c) e2.1 (by omega) e1.2.1
  have l2 := h.leR (i := n - 1 - c) (j := n - 1 - c') e1.2.2.2.1 (by omega) e2.2.2.2.2
  omega
theorem Two.hi (h : Two D A L R Z a m b N) (he : Ends a m b mid n s0 r0) {c : Nat} (h1 : s0 ≤ c) (h2 : c < r0) (hc : ke D (n - 1 - c) < ke D c) : ∀ c', c ≤ c' → c' < r0 → ke D (n - 1 - c') < ke D c' := fun c' h3 h4 => by
  have e1 := he.at_ h1 h2
  have e2 := he.at_ (show s0 ≤ c' by omega) h4
  have l1 := h.leL (i := c) (j := c') e1.1 (by omega) e2.2.1
  have l2 := h.leR (i := n - 1 - c') (j := n - 1 - c) e2.2.2.2.1 (by omega) e1.2.2.2.2
  omega
theorem Two.sym (h : Two D A L R Z a m b N) (he : Ends a m b mid n s0 r0) {s : Nat} (hs : s0 ≤ s) (hr : s ≤ r0) (hlo : ∀ c, s0 ≤ c → c < s → ke D c ≤ ke D (n - 1 - c)) (hhi : ∀ c, s ≤ c → c < r0 → ke D (n - 1 - c) < ke D c) :
    ∃ L1 L2 R1 R2, L = L1 ++ L2 ∧ R = R1 ++ R2 ∧ a + L1.length = s ∧ s + L2.length = m ∧ m + R1.length = n - s ∧ n - s + R2.length = b ∧ s + R1.length = mid ∧ mid + L2.length = n - s ∧ mg lt L R = mg lt L1 R1 ++ mg lt L2 R2 := by
  have e0 := he.rng
  have hlm := h.lm
  have hlb := h.lb
  have eb : n - s ≤ b := by obtain ⟨h3, h4, h5, h6, h7 | h7⟩ := he <;> omega
  refine ⟨L.take (s - a), L.drop (s - a), R.take (n - s - m), R.drop (n - s - m), (List.take_append_drop _ _).symm, (List.take_append_drop _ _).symm, ?_, ?_, ?_, ?_, ?_, ?_, ?_⟩
  · rw [List.length_take]; omega
  · rw [List.length_drop]; omega
  · rw [List.length_take]; omega
  · rw [List.length_drop]; omega
  · rw [List.length_take]; omega
  · rw [List.length_drop]; omega
  · refine h.cut s (n - s) (by omega) (by omega) (fun i j h1 h2 h3 h4 => ?_) (fun i j h1 h2 h3 h4 => ?_)
    · by_cases hc : s0 < s
      · have k := hlo (s - 1) (by omega) (by omega)
        have k1 := h.leL (i := i) (j := s - 1) h1 (by omega) (by omega)
        rw [show n - 1 - (s - 1) = n - s by omega] at k
        have k2 := h.leR (i := n - s) (j := j) (by omega) h3 h4
        omega
      · obtain ⟨h5, h6, h7, h8, h9 | h9⟩ := he <;> omega
    · by_cases hc : s < r0
      · have k := hhi s (Nat.le_refl _) hc
        have k1 := h.leL (i := s) (j := i) (by omega) h1 h2
        have k2 := h.leR (i := j) (j := n - 1 - s) h3 (by omega) (by omega)
        omega
      · obtain ⟨h5, h6, h7, h8, h9 | h9⟩ := he <;> omega
end

/-- What is shown of a merge of at most f elements. -/
def SymOk (f : Nat) : Prop := ∀ (g cap N a m b : Nat) (D A L R Z : List Mv) (w : World), b ≤ a + f → Two D A L R Z a m b N → N ≤ 1000000 → a < m → m < b → RowM g cap D w →
    Calls Tryz.prog 105 #[.slice (some ⟨g, 0, none⟩) N cap, .int .i64 a, .int .i64 m, .int .i64 b, .func (.func 42) #[] #[]] w fun e w' =>
      e = .returned (.tuple #[]) ∧ w.grownBy w' (some g) ∧ RowM g cap (A ++ mg lt L R ++ Z) w'

set_option maxHeartbeats 4000000 in
set_option maxRecDepth 100000 in
theorem symMerge_step (f : Nat) (IH0 : SymOk f) (g cap N a m b : Nat) (D A L R Z : List Mv) (w : World) (hf : b ≤ a + (f + 1)) (h2 : Two D A L R Z a m b N) (hn : N ≤ 1000000) (x1 : a + 1 < m) (x2 : m + 1 < b) (hr : RowM g cap D w) :
    Calls Tryz.prog 105 #[.slice (some ⟨g, 0, none⟩) N cap, .int .i64 a, .int .i64 m, .int .i64 b, .func (.func 42) #[] #[]] w fun e w' =>
      e = .returned (.tuple #[]) ∧ w.grownBy w' (some g) ∧ RowM g cap (A ++ mg lt L R ++ Z) w' := by
    obtain ⟨mid, hmid⟩ : ∃ x, (a + b) / 2 = x := ⟨_, rfl⟩
    obtain ⟨n, hnn⟩ : ∃ x, mid + m = x := ⟨_, rfl⟩
    have IH := Lib.hid (And.intro hf IH0)
    have hbN := h2.bn
    have b1 : ((m : Int) - a == 1) = false := by simp; omega
    have b2 : ((b : Int) - m == 1) = false := by simp; omega
    have w0 : IntKind.i64.wrap ((m : Int) - a) = (m : Int) - a := IntWalk.i64_in _ (by omega)
    have w1 : IntKind.i64.wrap ((b : Int) - m) = (b : Int) - m := IntWalk.i64_in _ (by omega)
    have w2 : IntKind.i64.wrap ((a : Int) + b) = (a : Int) + b := IntWalk.i64_in _ (by omega)
    have w3 : ((a : Int) + b) / 2 = (mid : Int) := by omega
    have w4 : IntKind.i64.wrap ((mid : Int) + m) = (n : Int) := by rw [IntWalk.i64_in _ (by omega)]; omega
    have w6 : IntKind.i64.wrap ((n : Int) - 1) = (n : Int) - 1 := IntWalk.i64_in _ (by omega)
    have HM := Lib.hid (And.intro hmid hnn)
    have r1 : a < mid := by omega
    have r2 : mid < b := by omega
    have r3 : n < 2000000 := by omega
    clear IH0 hmid hnn hf
    by_cases hc : mid < m
    · obtain ⟨s0, hs0e⟩ : ∃ x, n - b = x := ⟨_, rfl⟩
      have hE : Ends a m b mid n s0 mid := by have := HM.out; unfold Ends; omega
      have w5 : IntKind.i64.wrap ((n : Int) - b) = (s0 : Int) := by rw [IntWalk.i64_in _ (by omega)]; have := HM.out; omega
      have hcb : decide ((m : Int) > (mid : Int)) = true := by simp; omega
      have hcb2 : decide ((mid : Int) < (m : Int)) = true := by simp; omega
      clear hs0e
      have e0 := hE.rng
      have HE := Lib.hid hE
      obtain ⟨q1, q2, q3, q4, q5, q6, q7⟩ := e0
      have HQ := Lib.hid q7
      clear hE q7
      go_enter Tryz.func105, Tryz.ntmps105
      go_wp2
      go_loopw [20, 21] (fun sv rv wr => ∃ s r : Nat, s0 ≤ s ∧ s ≤ r ∧ r ≤ mid ∧ sv = .int .i64 s ∧ rv = .int .i64 r ∧ w.grownBy wr (some g) ∧ RowM g cap D wr ∧ (∀ c, s0 ≤ c → c < s → ke D c ≤ ke D (n - 1 - c)) ∧ (∀ c, r ≤ c → c < mid → ke D (n - 1 - c) < ke D c)) (fun sv rv _ => (intOf rv).toNat - (intOf sv).toNat)
      case atStart => exact ⟨s0, mid, by omega, by omega, by omega, rfl, rfl, World.grownBy.refl _ _, hr, fun t h3 h4 => (by omega), fun t h3 h4 => (by omega)⟩
      case round =>
        obtain ⟨s, r, hs0, hsr, hr0, rfl, rfl, hg, hrr, hlo, hhi⟩ := hrel
        by_cases hlt : s < r
        · obtain ⟨c, hh⟩ : ∃ h, (s + r) / 2 = h := ⟨_, rfl⟩
          have e1 := HE.out.at_ (c := c) (by omega) (by omega)
          obtain ⟨pc, hpc⟩ : ∃ x, n - 1 - c = x := ⟨_, rfl⟩
          obtain ⟨⟨xa, fa⟩, hxa⟩ : ∃ x, D[pc]? = some x := ⟨_, List.getElem?_eq_getElem (by have := h2.len; omega)⟩
          obtain ⟨⟨xh, fh⟩, hxh⟩ : ∃ x, D[c]? = some x := ⟨_, List.getElem?_eq_getElem (by have := h2.len; omega)⟩
          have wi : IntKind.i64.wrap ((s : Int) + r) = (s : Int) + r := IntWalk.i64_in _ (by omega)
          have hzz : ((s : Int) + r) / 2 = (c : Int) := by omega
          have wj : IntKind.i64.wrap ((n : Int) - 1 - c) = (pc : Int) := by rw [IntWalk.i64_in _ (by omega)]; omega
          have hih : s ≤ c := by omega
          have hhj : c < r := by omega
          have hcN : (c : Int) < (N : Int) := by omega
          have hpN : (pc : Int) < (N : Int) := by omega
          obtain ⟨pa, hpa⟩ : ∃ p, pc * 3 = p := ⟨_, rfl⟩
          obtain ⟨ph, hph⟩ : ∃ p, c * 3 = p := ⟨_, rfl⟩
          have hgw := hrr.lt
          have c1 : ∀ n os, (Sort.grow (wr.drewN n) os).cell? ⟨g, pa, none⟩ = some (.int .i64 xa) := fun n os => cell_grown hgw (hpa ▸ Rw.cell hrr hxa (j := 0) rfl) n os
          have c2 : ∀ n os, (Sort.grow (wr.drewN n) os).cell? ⟨g, pa + 1, none⟩ = some (.int .i64 fa.1) := fun n os => cell_grown hgw (hpa ▸ Rw.cell hrr hxa (j := 1) rfl) n os
          have c3 : ∀ n os, (Sort.grow (wr.drewN n) os).cell? ⟨g, pa + 2, none⟩ = some (.int .i64 fa.2) := fun n os => cell_grown hgw (hpa ▸ Rw.cell hrr hxa (j := 2) rfl) n os
          have c4 : ∀ n os, (Sort.grow (wr.drewN n) os).cell? ⟨g, ph, none⟩ = some (.int .i64 xh) := fun n os => cell_grown hgw (hph ▸ Rw.cell hrr hxh (j := 0) rfl) n os
          have c5 : ∀ n os, (Sort.grow (wr.drewN n) os).cell? ⟨g, ph + 1, none⟩ = some (.int .i64 fh.1) := fun n os => cell_grown hgw (hph ▸ Rw.cell hrr hxh (j := 1) rfl) n os
          have c6 : ∀ n os, (Sort.grow (wr.drewN n) os).cell? ⟨g, ph + 2, none⟩ = some (.int .i64 fh.2) := fun n os => cell_grown hgw (hph ▸ Rw.cell hrr hxh (j := 2) rfl) n os
          have k1 := ke_some hxa
          have k2 := ke_some hxh
          have lo : ¬ xa < xh → ∀ t, s0 ≤ t → t < c + 1 → ke D t ≤ ke D (n - 1 - t) := fun h3 => h2.lo HE.out (by omega) (by omega) (by rw [hpc, k1, k2]; show xh ≤ xa; omega)
          have hi : xa < xh → ∀ t, c ≤ t → t < mid → ke D (n - 1 - t) < ke D t := fun h3 => h2.hi HE.out (by omega) (by omega) (by rw [hpc, k1, k2]; exact h3)
          have KK := Lib.hid (And.intro lo (And.intro hi (And.intro hlo hhi)))
          have HH := Lib.hid hh
          have HR := Lib.hid hrr
          clear lo hi hlo hhi k1 k2 hxa hxh hrr hr hh hpc e1
          go_wp2_with fail
          refine wp_region_quiet_grown (by kernel_rfl) (by kernel_rfl) ?_
          repeat (go_big_quiet_step (refine Calls.grown_of (cmpK' xa xh fa fh _)))
          refine wpQuiet_nil ?_
          intro _ hw'
          obtain ⟨⟨nq, osq⟩, hw''⟩ := hw'
          subst hw''
          have hg3 := gGrow hg nq osq
          have hr4 : RowM g cap _ _ := Rw.grow (HR.out.drewN nq) osq
          have HR4 := Lib.hid hr4
          clear hr4 c1 c2 c3 c4 c5 c6
          obtain ⟨hc1, hc2⟩ := cf_neg xa xh
          generalize cf xa xh = cc at *
          generalize Sort.grow (wr.drewN nq) osq = wq at *
          by_cases hlt2 : xa < xh
          · have hcc := hc1 hlt2
            have hd : decide (cc < 0) = true := decide_eq_true hcc
            clear hc1 hc2
            rw [hd]
            clear hd
            go_wp2
            exact ⟨⟨s, c, by omega, by omega, by omega, rfl, rfl, hg3, HR4.out, KK.out.2.2.1, KK.out.2.1 (by omega)⟩, by simp [intOf]; omega⟩
          · have hcc := hc2 hlt2
            have hd : decide (cc < 0) = false := decide_eq_false (by omega)
            clear hc1 hc2
            rw [hd]
            clear hd
            go_wp2
            exact ⟨⟨c + 1, r, by omega, by omega, by omega, by go_num, rfl, hg3, HR4.out, KK.out.1 (by omega), KK.out.2.2.2⟩, by simp [intOf]; omega⟩
        · have hsr2 : s = r := by omega
          subst hsr2
          obtain ⟨L1, L2, R1, R2, hL, hR, l1, l2, l3, l4, l5, l6, hM⟩ := h2.sym HE.out hs0 hr0 hlo hhi
          obtain ⟨e, he⟩ : ∃ x, n - s = x := ⟨_, rfl⟩
          rw [he] at l3 l4 l6
          have we : IntKind.i64.wrap ((n : Int) - s) = (e : Int) := by rw [IntWalk.i64_in _ (by omega)]; have := HM.out; omega
          have t1 : a ≤ s := by omega
          have t2 : s ≤ m := by omega
          have t3 : m ≤ e := by omega
          have t4 : e ≤ b := by omega
          have t5 : s ≤ mid := by omega
          have t6 : mid ≤ e := by omega
          have hT := h2.eq
          rw [hT, hL, hR] at hrr
          have HN := Lib.hid (show (A ++ (L1 ++ L2) ++ (R1 ++ R2) ++ Z).length = N by rw [← hL, ← hR, ← hT]; exact h2.len)
          have hsl := h2.sl
          have hsr3 := h2.sr
          rw [hL] at hsl
          rw [hR] at hsr3
          have HS := Lib.hid (And.intro (List.pairwise_append.1 hsl).1 (And.intro (List.pairwise_append.1 hsl).2.1 (And.intro (List.pairwise_append.1 hsr3).1 (List.pairwise_append.1 hsr3).2.1)))
          have HA := Lib.hid h2.la
          clear hsl hsr3
          have HR := Lib.hid hrr
          have HL := Lib.hid (And.intro l1 (And.intro l2 (And.intro l3 (And.intro l4 (And.intro l5 l6)))))
          have HD := Lib.hid (And.intro hL (And.intro hR hM))
          clear hrr hr hL hR hM l1 l2 l3 l4 l5 l6 he hT hlo hhi hlt
          go_upto_region 39 with fail
          go_cut [185] from 178 to 185 (fun q wx => q = .bool (decide (s < m ∧ m < e)) ∧ wr = wx)
          case first =>
            by_cases k1 : s < m
            · by_cases k2 : m < e
              · have d1 : decide (s < m) = true := decide_eq_true k1
                have d2 : decide (m < e) = true := decide_eq_true k2
                go_wp2
                go_meet
                exact ⟨by simp [k1, k2], rfl⟩
              · have d1 : decide (s < m) = true := decide_eq_true k1
                have d2 : decide (m < e) = false := decide_eq_false k2
                go_wp2
                go_meet
                exact ⟨by simp [k1, k2], rfl⟩
            · have d1 : decide (s < m) = false := decide_eq_false k1
              go_wp2
              go_meet
              exact ⟨by simp [k1], rfl⟩
          case rest =>
            obtain ⟨rfl, rfl⟩ := hcut
            go_upto_if 185 with fail
            go_cut [185] from 186 to 191 (fun _ wx => w.grownBy wx (some g) ∧ RowM g cap (A ++ L1 ++ R1 ++ (L2 ++ R2 ++ Z)) wx)
            case first =>
              by_cases k : s < m ∧ m < e
              · have hc := rotate g cap N s m e (A ++ L1) L2 R1 (R2 ++ Z) (.func (.func 42) #[] #[]) wr (by have := HN.out; have := HL.out; simp only [List.length_append] at *; omega) hn (by have := HL.out; have := HA.out; rw [List.length_append]; omega) HL.out.2.1 HL.out.2.2.1 (by have := HL.out; omega) (by have := HL.out; omega) (by simpa using HR.out)
                have HC := Lib.hid hc
                have kd : decide (s < m ∧ m < e) = true := decide_eq_true k
                rw [kd]
                clear hc kd
                go_wp2_with fail
                refine (HC.out).mono ?_
                rintro _ w8 ⟨rfl, hg8, hr8⟩
                have HR8 := Lib.hid hr8
                clear hr8
                go_wp2
                go_meet
                exact ⟨gTrans hg hg8, by simpa using HR8.out⟩
              · have kd : decide (s < m ∧ m < e) = false := decide_eq_false k
                rw [kd]
                clear kd
                go_wp2
                go_meet
                refine ⟨hg, ?_⟩
                have h9 := HR.out
                by_cases k3 : s < m
                · have : R1 = [] := List.length_eq_zero_iff.1 (by have := HL.out; omega)
                  simpa [this] using h9
                · have : L2 = [] := List.length_eq_zero_iff.1 (by have := HL.out; omega)
                  simpa [this] using h9
            case rest =>
              obtain ⟨hg2, hr2⟩ := hcut
              have HR2 := Lib.hid hr2
              clear hr2
              obtain ⟨w9, rfl⟩ : ∃ w9 : World, w9 = wc := ⟨_, rfl⟩
              go_upto_region 41 with fail
              go_cut [199] from 192 to 199 (fun q wx => q = .bool (decide (a < s ∧ s < mid)) ∧ w9 = wx)
              case first =>
                by_cases k1 : a < s
                · by_cases k2 : s < mid
                  · have d1 : decide (a < s) = true := decide_eq_true k1
                    have d2 : decide (s < mid) = true := decide_eq_true k2
                    go_wp2
                    go_meet
                    exact ⟨by simp [k1, k2], rfl⟩
                  · have d1 : decide (a < s) = true := decide_eq_true k1
                    have d2 : decide (s < mid) = false := decide_eq_false k2
                    go_wp2
                    go_meet
                    exact ⟨by simp [k1, k2], rfl⟩
                · have d1 : decide (a < s) = false := decide_eq_false k1
                  go_wp2
                  go_meet
                  exact ⟨by simp [k1], rfl⟩
              case rest =>
                obtain ⟨rfl, rfl⟩ := hcut
                go_upto_if 199 with fail
                go_cut [199] from 200 to 205 (fun _ wx => w.grownBy wx (some g) ∧ RowM g cap ((A ++ mg lt L1 R1) ++ L2 ++ R2 ++ Z) wx)
                case first =>
                  by_cases k : a < s ∧ s < mid
                  · have hc := IH.out.2 g cap N a s mid _ A L1 R1 (L2 ++ R2 ++ Z) w9 (by have := IH.out.1; omega) ⟨rfl, by have := HN.out; simp only [List.length_append] at *; omega, HA.out, HL.out.1, HL.out.2.2.2.2.1, HS.out.1, HS.out.2.2.1⟩ hn k.1 k.2 HR2.out
                    have HC := Lib.hid hc
                    have kd : decide (a < s ∧ s < mid) = true := decide_eq_true k
                    rw [kd]
                    clear hc kd
                    go_wp2_with fail
                    refine (HC.out).mono ?_
                    rintro _ w8 ⟨rfl, hg8, hr8⟩
                    have HR8 := Lib.hid hr8
                    clear hr8
                    go_wp2
                    go_meet
                    exact ⟨gTrans hg2 hg8, by simpa using HR8.out⟩
                  · have kd : decide (a < s ∧ s < mid) = false := decide_eq_false k
                    rw [kd]
                    clear kd
                    go_wp2
                    go_meet
                    refine ⟨hg2, ?_⟩
                    have h9 := HR2.out
                    by_cases k3 : a < s
                    · have : R1 = [] := List.length_eq_zero_iff.1 (by have := HL.out; omega)
                      simpa [this] using h9
                    · have : L1 = [] := List.length_eq_zero_iff.1 (by have := HL.out; omega)
                      simpa [this] using h9
                case rest =>
                  obtain ⟨hg3, hr3⟩ := hcut
                  have HR3 := Lib.hid hr3
                  clear hr3
                  obtain ⟨w7, rfl⟩ : ∃ w7 : World, w7 = wc := ⟨_, rfl⟩
                  go_upto_region 43 with fail
                  go_cut [213] from 206 to 213 (fun q wx => q = .bool (decide (mid < e ∧ e < b)) ∧ w7 = wx)
                  case first =>
                    by_cases k1 : mid < e
                    · by_cases k2 : e < b
                      · have d1 : decide (mid < e) = true := decide_eq_true k1
                        have d2 : decide (e < b) = true := decide_eq_true k2
                        go_wp2
                        go_meet
                        exact ⟨by simp [k1, k2], rfl⟩
                      · have d1 : decide (mid < e) = true := decide_eq_true k1
                        have d2 : decide (e < b) = false := decide_eq_false k2
                        go_wp2
                        go_meet
                        exact ⟨by simp [k1, k2], rfl⟩
                    · have d1 : decide (mid < e) = false := decide_eq_false k1
                      go_wp2
                      go_meet
                      exact ⟨by simp [k1], rfl⟩
                  case rest =>
                    obtain ⟨rfl, rfl⟩ := hcut
                    by_cases k : mid < e ∧ e < b
                    · have hc := IH.out.2 g cap N mid e b _ (A ++ mg lt L1 R1) L2 R2 Z w7 (by have := IH.out.1; omega) ⟨rfl, by have := HN.out; simp only [List.length_append, mg_length] at *; omega, by have := HL.out; have := HA.out; rw [List.length_append, mg_length]; omega, HL.out.2.2.2.2.2, HL.out.2.2.2.1, HS.out.2.1, HS.out.2.2.2⟩ hn k.1 k.2 HR3.out
                      have HC := Lib.hid hc
                      have kd : decide (mid < e ∧ e < b) = true := decide_eq_true k
                      rw [kd]
                      clear hc kd
                      go_wp2_with fail
                      refine (HC.out).mono ?_
                      rintro _ w8 ⟨rfl, hg8, hr8⟩
                      have HR8 := Lib.hid hr8
                      clear hr8
                      go_wp2
                      go_end0
                      refine ⟨rfl, gTrans hg3 hg8, ?_⟩
                      rw [HD.out.2.2]
                      simpa using HR8.out
                    · have kd : decide (mid < e ∧ e < b) = false := decide_eq_false k
                      rw [kd]
                      clear kd
                      go_wp2
                      go_end0
                      refine ⟨rfl, hg3, ?_⟩
                      rw [HD.out.2.2]
                      have h9 := HR3.out
                      by_cases k3 : mid < e
                      · have : R2 = [] := List.length_eq_zero_iff.1 (by have := HL.out; omega)
                        simpa [this] using h9
                      · have : L2 = [] := List.length_eq_zero_iff.1 (by have := HL.out; omega)
                        simpa [this] using h9
    · have hE : Ends a m b mid n a m := by have := HM.out; unfold Ends; omega
      have hcb : decide ((m : Int) > (mid : Int)) = false := by simp; omega
      have hcb2 : decide ((mid : Int) < (m : Int)) = false := by simp; omega
      have hcm : m ≤ mid := by omega
      have hcb3 : decide (mid < m) = false := by simp; omega
      clear hc
      have e0 := hE.rng
      have HE := Lib.hid hE
      obtain ⟨q1, q2, q3, q4, q5, q6, q7⟩ := e0
      have HQ := Lib.hid q7
      clear hE q7
      go_enter Tryz.func105, Tryz.ntmps105
      go_wp2
      go_loopw [20, 21] (fun sv rv wr => ∃ s r : Nat, a ≤ s ∧ s ≤ r ∧ r ≤ m ∧ sv = .int .i64 s ∧ rv = .int .i64 r ∧ w.grownBy wr (some g) ∧ RowM g cap D wr ∧ (∀ c, a ≤ c → c < s → ke D c ≤ ke D (n - 1 - c)) ∧ (∀ c, r ≤ c → c < m → ke D (n - 1 - c) < ke D c)) (fun sv rv _ => (intOf rv).toNat - (intOf sv).toNat)
      case atStart => exact ⟨a, m, by omega, by omega, by omega, rfl, rfl, World.grownBy.refl _ _, hr, fun t h3 h4 => (by omega), fun t h3 h4 => (by omega)⟩
      case round =>
        obtain ⟨s, r, hs0, hsr, hr0, rfl, rfl, hg, hrr, hlo, hhi⟩ := hrel
        by_cases hlt : s < r
        · obtain ⟨c, hh⟩ : ∃ h, (s + r) / 2 = h := ⟨_, rfl⟩
          have e1 := HE.out.at_ (c := c) (by omega) (by omega)
          obtain ⟨pc, hpc⟩ : ∃ x, n - 1 - c = x := ⟨_, rfl⟩
          obtain ⟨⟨xa, fa⟩, hxa⟩ : ∃ x, D[pc]? = some x := ⟨_, List.getElem?_eq_getElem (by have := h2.len; omega)⟩
          obtain ⟨⟨xh, fh⟩, hxh⟩ : ∃ x, D[c]? = some x := ⟨_, List.getElem?_eq_getElem (by have := h2.len; omega)⟩
          have wi : IntKind.i64.wrap ((s : Int) + r) = (s : Int) + r := IntWalk.i64_in _ (by omega)
          have hzz : ((s : Int) + r) / 2 = (c : Int) := by omega
          have wj : IntKind.i64.wrap ((n : Int) - 1 - c) = (pc : Int) := by rw [IntWalk.i64_in _ (by omega)]; omega
          have hih : s ≤ c := by omega
          have hhj : c < r := by omega
          have hcN : (c : Int) < (N : Int) := by omega
          have hpN : (pc : Int) < (N : Int) := by omega
          obtain ⟨pa, hpa⟩ : ∃ p, pc * 3 = p := ⟨_, rfl⟩
          obtain ⟨ph, hph⟩ : ∃ p, c * 3 = p := ⟨_, rfl⟩
          have hgw := hrr.lt
          have c1 : ∀ n os, (Sort.grow (wr.drewN n) os).cell? ⟨g, pa, none⟩ = some (.int .i64 xa) := fun n os => cell_grown hgw (hpa ▸ Rw.cell hrr hxa (j := 0) rfl) n os
          have c2 : ∀ n os, (Sort.grow (wr.drewN n) os).cell? ⟨g, pa + 1, none⟩ = some (.int .i64 fa.1) := fun n os => cell_grown hgw (hpa ▸ Rw.cell hrr hxa (j := 1) rfl) n os
          have c3 : ∀ n os, (Sort.grow (wr.drewN n) os).cell? ⟨g, pa + 2, none⟩ = some (.int .i64 fa.2) := fun n os => cell_grown hgw (hpa ▸ Rw.cell hrr hxa (j := 2) rfl) n os
          have c4 : ∀ n os, (Sort.grow (wr.drewN n) os).cell? ⟨g, ph, none⟩ = some (.int .i64 xh) := fun n os => cell_grown hgw (hph ▸ Rw.cell hrr hxh (j := 0) rfl) n os
          have c5 : ∀ n os, (Sort.grow (wr.drewN n) os).cell? ⟨g, ph + 1, none⟩ = some (.int .i64 fh.1) := fun n os => cell_grown hgw (hph ▸ Rw.cell hrr hxh (j := 1) rfl) n os
          have c6 : ∀ n os, (Sort.grow (wr.drewN n) os).cell? ⟨g, ph + 2, none⟩ = some (.int .i64 fh.2) := fun n os => cell_grown hgw (hph ▸ Rw.cell hrr hxh (j := 2) rfl) n os
          have k1 := ke_some hxa
          have k2 := ke_some hxh
          have lo : ¬ xa < xh → ∀ t, a ≤ t → t < c + 1 → ke D t ≤ ke D (n - 1 - t) := fun h3 => h2.lo HE.out (by omega) (by omega) (by rw [hpc, k1, k2]; show xh ≤ xa; omega)
          have hi : xa < xh → ∀ t, c ≤ t → t < m → ke D (n - 1 - t) < ke D t := fun h3 => h2.hi HE.out (by omega) (by omega) (by rw [hpc, k1, k2]; exact h3)
          have KK := Lib.hid (And.intro lo (And.intro hi (And.intro hlo hhi)))
          have HH := Lib.hid hh
          have HR := Lib.hid hrr
          clear lo hi hlo hhi k1 k2 hxa hxh hrr hr hh hpc e1
          go_wp2_with fail
          refine wp_region_quiet_grown (by kernel_rfl) (by kernel_rfl) ?_
          repeat (go_big_quiet_step (refine Calls.grown_of (cmpK' xa xh fa fh _)))
          refine wpQuiet_nil ?_
          intro _ hw'
          obtain ⟨⟨nq, osq⟩, hw''⟩ := hw'
          subst hw''
          have hg3 := gGrow hg nq osq
          have hr4 : RowM g cap _ _ := Rw.grow (HR.out.drewN nq) osq
          have HR4 := Lib.hid hr4
          clear hr4 c1 c2 c3 c4 c5 c6
          obtain ⟨hc1, hc2⟩ := cf_neg xa xh
          generalize cf xa xh = cc at *
          generalize Sort.grow (wr.drewN nq) osq = wq at *
          by_cases hlt2 : xa < xh
          · have hcc := hc1 hlt2
            have hd : decide (cc < 0) = true := decide_eq_true hcc
            clear hc1 hc2
            rw [hd]
            clear hd
            go_wp2
            exact ⟨⟨s, c, by omega, by omega, by omega, rfl, rfl, hg3, HR4.out, KK.out.2.2.1, KK.out.2.1 (by omega)⟩, by simp [intOf]; omega⟩
          · have hcc := hc2 hlt2
            have hd : decide (cc < 0) = false := decide_eq_false (by omega)
            clear hc1 hc2
            rw [hd]
            clear hd
            go_wp2
            exact ⟨⟨c + 1, r, by omega, by omega, by omega, by go_num, rfl, hg3, HR4.out, KK.out.1 (by omega), KK.out.2.2.2⟩, by simp [intOf]; omega⟩
        · have hsr2 : s = r := by omega
          subst hsr2
          obtain ⟨L1, L2, R1, R2, hL, hR, l1, l2, l3, l4, l5, l6, hM⟩ := h2.sym HE.out hs0 hr0 hlo hhi
          obtain ⟨e, he⟩ : ∃ x, n - s = x := ⟨_, rfl⟩
          rw [he] at l3 l4 l6
          have we : IntKind.i64.wrap ((n : Int) - s) = (e : Int) := by rw [IntWalk.i64_in _ (by omega)]; have := HM.out; omega
          have t1 : a ≤ s := by omega
          have t2 : s ≤ m := by omega
          have t3 : m ≤ e := by omega
          have t4 : e ≤ b := by omega
          have t5 : s ≤ mid := by omega
          have t6 : mid ≤ e := by omega
          have hT := h2.eq
          rw [hT, hL, hR] at hrr
          have HN := Lib.hid (show (A ++ (L1 ++ L2) ++ (R1 ++ R2) ++ Z).length = N by rw [← hL, ← hR, ← hT]; exact h2.len)
          have hsl := h2.sl
          have hsr3 := h2.sr
          rw [hL] at hsl
          rw [hR] at hsr3
          have HS := Lib.hid (And.intro (List.pairwise_append.1 hsl).1 (And.intro (List.pairwise_append.1 hsl).2.1 (And.intro (List.pairwise_append.1 hsr3).1 (List.pairwise_append.1 hsr3).2.1)))
          have HA := Lib.hid h2.la
          clear hsl hsr3
          have HR := Lib.hid hrr
          have HL := Lib.hid (And.intro l1 (And.intro l2 (And.intro l3 (And.intro l4 (And.intro l5 l6)))))
          have HD := Lib.hid (And.intro hL (And.intro hR hM))
          clear hrr hr hL hR hM l1 l2 l3 l4 l5 l6 he hT hlo hhi hlt
          go_upto_region 39 with fail
          go_cut [185] from 178 to 185 (fun q wx => q = .bool (decide (s < m ∧ m < e)) ∧ wr = wx)
          case first =>
            by_cases k1 : s < m
            · by_cases k2 : m < e
              · have d1 : decide (s < m) = true := decide_eq_true k1
                have d2 : decide (m < e) = true := decide_eq_true k2
                go_wp2
                go_meet
                exact ⟨by simp [k1, k2], rfl⟩
              · have d1 : decide (s < m) = true := decide_eq_true k1
                have d2 : decide (m < e) = false := decide_eq_false k2
                go_wp2
                go_meet
                exact ⟨by simp [k1, k2], rfl⟩
            · have d1 : decide (s < m) = false := decide_eq_false k1
              go_wp2
              go_meet
              exact ⟨by simp [k1], rfl⟩
          case rest =>
            obtain ⟨rfl, rfl⟩ := hcut
            go_upto_if 185 with fail
            go_cut [185] from 186 to 191 (fun _ wx => w.grownBy wx (some g) ∧ RowM g cap (A ++ L1 ++ R1 ++ (L2 ++ R2 ++ Z)) wx)
            case first =>
              by_cases k : s < m ∧ m < e
              · have hc := rotate g cap N s m e (A ++ L1) L2 R1 (R2 ++ Z) (.func (.func 42) #[] #[]) wr (by have := HN.out; have := HL.out; simp only [List.length_append] at *; omega) hn (by have := HL.out; have := HA.out; rw [List.length_append]; omega) HL.out.2.1 HL.out.2.2.1 (by have := HL.out; omega) (by have := HL.out; omega) (by simpa using HR.out)
                have HC := Lib.hid hc
                have kd : decide (s < m ∧ m < e) = true := decide_eq_true k
                rw [kd]
                clear hc kd
                go_wp2_with fail
                refine (HC.out).mono ?_
                rintro _ w8 ⟨rfl, hg8, hr8⟩
                have HR8 := Lib.hid hr8
                clear hr8
                go_wp2
                go_meet
                exact ⟨gTrans hg hg8, by simpa using HR8.out⟩
              · have kd : decide (s < m ∧ m < e) = false := decide_eq_false k
                rw [kd]
                clear kd
                go_wp2
                go_meet
                refine ⟨hg, ?_⟩
                have h9 := HR.out
                by_cases k3 : s < m
                · have : R1 = [] := List.length_eq_zero_iff.1 (by have := HL.out; omega)
                  simpa [this] using h9
                · have : L2 = [] := List.length_eq_zero_iff.1 (by have := HL.out; omega)
                  simpa [this] using h9
            case rest =>
              obtain ⟨hg2, hr2⟩ := hcut
              have HR2 := Lib.hid hr2
              clear hr2
              obtain ⟨w9, rfl⟩ : ∃ w9 : World, w9 = wc := ⟨_, rfl⟩
              go_upto_region 41 with fail
              go_cut [199] from 192 to 199 (fun q wx => q = .bool (decide (a < s ∧ s < mid)) ∧ w9 = wx)
              case first =>
                by_cases k1 : a < s
                · by_cases k2 : s < mid
                  · have d1 : decide (a < s) = true := decide_eq_true k1
                    have d2 : decide (s < mid) = true := decide_eq_true k2
                    go_wp2
                    go_meet
                    exact ⟨by simp [k1, k2], rfl⟩
                  · have d1 : decide (a < s) = true := decide_eq_true k1
                    have d2 : decide (s < mid) = false := decide_eq_false k2
                    go_wp2
                    go_meet
                    exact ⟨by simp [k1, k2], rfl⟩
                · have d1 : decide (a < s) = false := decide_eq_false k1
                  go_wp2
                  go_meet
                  exact ⟨by simp [k1], rfl⟩
              case rest =>
                obtain ⟨rfl, rfl⟩ := hcut
                go_upto_if 199 with fail
                go_cut [199] from 200 to 205 (fun _ wx => w.grownBy wx (some g) ∧ RowM g cap ((A ++ mg lt L1 R1) ++ L2 ++ R2 ++ Z) wx)
                case first =>
                  by_cases k : a < s ∧ s < mid
                  · have hc := IH.out.2 g cap N a s mid _ A L1 R1 (L2 ++ R2 ++ Z) w9 (by have := IH.out.1; omega) ⟨rfl, by have := HN.out; simp only [List.length_append] at *; omega, HA.out, HL.out.1, HL.out.2.2.2.2.1, HS.out.1, HS.out.2.2.1⟩ hn k.1 k.2 HR2.out
                    have HC := Lib.hid hc
                    have kd : decide (a < s ∧ s < mid) = true := decide_eq_true k
                    rw [kd]
                    clear hc kd
                    go_wp2_with fail
                    refine (HC.out).mono ?_
                    rintro _ w8 ⟨rfl, hg8, hr8⟩
                    have HR8 := Lib.hid hr8
                    clear hr8
                    go_wp2
                    go_meet
                    exact ⟨gTrans hg2 hg8, by simpa using HR8.out⟩
                  · have kd : decide (a < s ∧ s < mid) = false := decide_eq_false k
                    rw [kd]
                    clear kd
                    go_wp2
                    go_meet
                    refine ⟨hg2, ?_⟩
                    have h9 := HR2.out
                    by_cases k3 : a < s
                    · have : R1 = [] := List.length_eq_zero_iff.1 (by have := HL.out; omega)
                      simpa [this] using h9
                    · have : L1 = [] := List.length_eq_zero_iff.1 (by have := HL.out; omega)
                      simpa [this] using h9
                case rest =>
                  obtain ⟨hg3, hr3⟩ := hcut
                  have HR3 := Lib.hid hr3
                  clear hr3
                  obtain ⟨w7, rfl⟩ : ∃ w7 : World, w7 = wc := ⟨_, rfl⟩
                  go_upto_region 43 with fail
                  go_cut [213] from 206 to 213 (fun q wx => q = .bool (decide (mid < e ∧ e < b)) ∧ w7 = wx)
                  case first =>
                    by_cases k1 : mid < e
                    · by_cases k2 : e < b
                      · have d1 : decide (mid < e) = true := decide_eq_true k1
                        have d2 : decide (e < b) = true := decide_eq_true k2
                        go_wp2
                        go_meet
                        exact ⟨by simp [k1, k2], rfl⟩
                      · have d1 : decide (mid < e) = true := decide_eq_true k1
                        have d2 : decide (e < b) = false := decide_eq_false k2
                        go_wp2
                        go_meet
                        exact ⟨by simp [k1, k2], rfl⟩
                    · have d1 : decide (mid < e) = false := decide_eq_false k1
                      go_wp2
                      go_meet
                      exact ⟨by simp [k1], rfl⟩
                  case rest =>
                    obtain ⟨rfl, rfl⟩ := hcut
                    by_cases k : mid < e ∧ e < b
                    · have hc := IH.out.2 g cap N mid e b _ (A ++ mg lt L1 R1) L2 R2 Z w7 (by have := IH.out.1; omega) ⟨rfl, by have := HN.out; simp only [List.length_append, mg_length] at *; omega, by have := HL.out; have := HA.out; rw [List.length_append, mg_length]; omega, HL.out.2.2.2.2.2, HL.out.2.2.2.1, HS.out.2.1, HS.out.2.2.2⟩ hn k.1 k.2 HR3.out
                      have HC := Lib.hid hc
                      have kd : decide (mid < e ∧ e < b) = true := decide_eq_true k
                      rw [kd]
                      clear hc kd
                      go_wp2_with fail
                      refine (HC.out).mono ?_
                      rintro _ w8 ⟨rfl, hg8, hr8⟩
                      have HR8 := Lib.hid hr8
                      clear hr8
                      go_wp2
                      go_end0
                      refine ⟨rfl, gTrans hg3 hg8, ?_⟩
                      rw [HD.out.2.2]
                      simpa using HR8.out
                    · have kd : decide (mid < e ∧ e < b) = false := decide_eq_false k
                      rw [kd]
                      clear kd
                      go_wp2
                      go_end0
                      refine ⟨rfl, hg3, ?_⟩
                      rw [HD.out.2.2]
                      have h9 := HR3.out
                      by_cases k3 : mid < e
                      · have : R2 = [] := List.length_eq_zero_iff.1 (by have := HL.out; omega)
                        simpa [this] using h9
                      · have : L2 = [] := List.length_eq_zero_iff.1 (by have := HL.out; omega)
                        simpa [this] using h9

/-- Two sorted ranges that touch are merged. -/
theorem symMerge : ∀ f : Nat, SymOk f
  | 0 => fun g cap N a m b D A L R Z w h1 _ _ h2 h3 _ => absurd h1 (by omega)
  | f + 1 => fun g cap N a m b D A L R Z w hf h2 hn ham hmb hr => by
    by_cases hm1 : m = a + 1
    · exact symMerge_one g cap N a m b D A L R Z w h2 hn hm1 hmb hr
    by_cases hb1 : b = m + 1
    · exact symMerge_last g cap N a m b D A L R Z w h2 hn hb1 (by omega) hr
    exact symMerge_step f (symMerge f) g cap N a m b D A L R Z w hf h2 hn (by omega) (by omega) hr
end Go.Proofs.YtmngghglcgmkeaaGreatDoor.Mo

namespace Go.Proofs.YtmngghglcgmkeaaGreatDoor.Mo
open Go.RowKit Go.Sort Go.BigFrame

section
variable {O : List Mv} {s t a : Nat}
theorem blks_up (hs : 0 < s) (ha : a = t * s) (h : a + s ≤ O.length) : blks lt s (O.take (a + s)) = blks lt s (O.take a) ++ ss lt ((O.drop a).take s) := by
  rw [List.take_add, blks_append hs t _ _ (by rw [List.length_take]; omega), blks_le (l := (O.drop a).take s) hs (by rw [List.length_take]; omega)]
theorem blks_cut (hs : 0 < s) (ha : a = t * s) (h : a ≤ O.length) : blks lt s O = blks lt s (O.take a) ++ blks lt s (O.drop a) := by
  conv => lhs; rw [← List.take_append_drop a O]
  exact blks_append hs t _ _ (by rw [List.length_take]; omega)
theorem blks_next (hs : 0 < s) (h : a + s ≤ O.length) : blks lt s (O.drop a) = ss lt ((O.drop a).take s) ++ blks lt s (O.drop (a + s)) := by
  conv => lhs; rw [← List.take_append_drop s (O.drop a)]
  rw [blks_cons hs (by rw [List.length_take, List.length_drop]; omega), List.drop_drop]
end

section
variable {O : List Mv} {s t a N : Nat}
theorem blks_two (hs : 0 < s) {l : List Mv} (h : 2 * s ≤ l.length) : blks lt s l = ss lt (l.take s) ++ ss lt ((l.drop s).take s) ++ blks lt s (l.drop (2 * s)) := by
  have h1 := blks_next (O := l) (a := 0) hs (by omega)
  have h2 := blks_next (O := l) (a := s) hs (by omega)
  simp only [List.drop_zero, Nat.zero_add] at h1
  rw [h1, h2, List.append_assoc, show s + s = 2 * s by omega]
theorem pair_up (hs : 0 < s) (ha : a = t * (2 * s)) (hN : O.length = N) (h : a + 2 * s ≤ N) :
    Two (blks lt (2 * s) (O.take a) ++ blks lt s (O.drop a)) (blks lt (2 * s) (O.take a)) (ss lt ((O.drop a).take s)) (ss lt ((O.drop (a + s)).take s)) (blks lt s (O.drop (a + 2 * s))) a (a + s) (a + 2 * s) N ∧
    blks lt (2 * s) (O.take a) ++ mg lt (ss lt ((O.drop a).take s)) (ss lt ((O.drop (a + s)).take s)) ++ blks lt s (O.drop (a + 2 * s)) = blks lt (2 * s) (O.take (a + 2 * s)) ++ blks lt s (O.drop (a + 2 * s)) := by
  subst hN
  have e := blks_two hs (l := O.drop a) (by rw [List.length_drop]; omega)
  rw [List.drop_drop, List.drop_drop] at e
  refine ⟨⟨by rw [e]; simp [List.append_assoc], ?_, ?_, ?_, ?_, srt_ss lt_swk _, srt_ss lt_swk _⟩, ?_⟩
  · simp only [List.length_append, blks_length, List.length_take, List.length_drop]; omega
  · rw [blks_length, List.length_take]; omega
  · rw [ss_length, List.length_take, List.length_drop]; omega
  · rw [ss_length, List.length_take, List.length_drop]; omega
  · rw [blks_up (s := 2 * s) (by omega) ha h, mg_ss lt_swk, show (2 * s) = s + s by omega, List.take_add, List.drop_drop]
theorem pair_last (hs : 0 < s) (ha : a = t * (2 * s)) (hN : O.length = N) (h : a + s < N) (h2 : N < a + 2 * s) :
    Two (blks lt (2 * s) (O.take a) ++ blks lt s (O.drop a)) (blks lt (2 * s) (O.take a)) (ss lt ((O.drop a).take s)) (ss lt (O.drop (a + s))) [] a (a + s) N N ∧
    blks lt (2 * s) (O.take a) ++ mg lt (ss lt ((O.drop a).take s)) (ss lt (O.drop (a + s))) ++ [] = blks lt (2 * s) O := by
  subst hN
  have e := blks_next (O := O) (a := a) hs (by omega)
  rw [blks_le (l := O.drop (a + s)) hs (by rw [List.length_drop]; omega)] at e
  refine ⟨⟨by rw [e]; simp [List.append_assoc], ?_, ?_, ?_, ?_, srt_ss lt_swk _, srt_ss lt_swk _⟩, ?_⟩
  · simp only [List.length_append, blks_length, List.length_take, List.length_drop]; omega
  · rw [blks_length, List.length_take]; omega
  · rw [ss_length, List.length_take, List.length_drop]; omega
  · rw [ss_length, List.length_drop]; omega
  · conv => rhs; rw [blks_cut (O := O) (s := 2 * s) (a := a) (by omega) ha (by omega)]
    rw [mg_ss lt_swk, ← List.drop_drop, List.take_append_drop, List.append_nil, blks_le (s := 2 * s) (l := O.drop a) (by omega) (by rw [List.length_drop]; omega)]
theorem pair_none (hs : 0 < s) (ha : a = t * (2 * s)) (hN : O.length = N) (h0 : a ≤ N) (h : N ≤ a + s) : blks lt (2 * s) (O.take a) ++ blks lt s (O.drop a) = blks lt (2 * s) O := by
  subst hN
  conv => rhs; rw [blks_cut (O := O) (s := 2 * s) (a := a) (by omega) ha h0]
  rw [blks_le (s := s) (l := O.drop a) hs (by rw [List.length_drop]; omega), blks_le (s := 2 * s) (l := O.drop a) (by omega) (by rw [List.length_drop]; omega)]
end

set_option maxHeartbeats 1000000 in
set_option maxRecDepth 100000 in
theorem stableCmp (g cap N : Nat) (O : List Mv) (w : World) (hN : O.length = N) (hn : N ≤ 1000000) (hr : RowM g cap O w) :
    Calls Tryz.prog 71 #[.slice (some ⟨g, 0, none⟩) N cap, .int .i64 N, .func (.func 42) #[] #[]] w fun e w' =>
      e = .returned (.tuple #[]) ∧ w.grownBy w' (some g) ∧ RowM g cap (ss lt O) w' := by
  have HN := Lib.hid hN
  clear hN
  go_enter Tryz.func71, Tryz.ntmps71
  go_wp2
  go_loopw [7, 8] (fun av bv wr => ∃ a t : Nat, a ≤ N ∧ av = .int .i64 a ∧ bv = .int .i64 (a + 20 : Nat) ∧ w.grownBy wr (some g) ∧ Hid (a = t * 20 ∧ RowM g cap (blks lt 20 (O.take a) ++ O.drop a) wr)) (fun av _ _ => N - (intOf av).toNat)
  case atStart => exact ⟨0, 0, by omega, rfl, rfl, World.grownBy.refl _ _, Lib.hid ⟨by omega, by simpa [blks_nil] using hr⟩⟩
  case round =>
    obtain ⟨a, t, ha, rfl, rfl, hg, HR⟩ := hrel
    have hN0 := HN.out
    have l1 : (blks lt 20 (O.take a)).length = a := by rw [blks_length, List.length_take]; omega
    by_cases hlt : a + 20 ≤ N
    · have hsp : blks lt 20 (O.take a) ++ O.drop a = blks lt 20 (O.take a) ++ (O.drop a).take 20 ++ O.drop (a + 20) := by
        rw [List.append_assoc, ← List.drop_drop, List.take_append_drop]
      have hc := insSort g cap N a (a + 20) (blks lt 20 (O.take a)) ((O.drop a).take 20) (O.drop (a + 20)) wr
        (by rw [← hsp, List.length_append, l1, List.length_drop]; omega) hn l1 (by rw [List.length_take, List.length_drop]; omega) (by rw [← hsp]; exact HR.out.2)
      rw [← blks_up (by omega) HR.out.1 (by omega)] at hc
      have HC := Lib.hid hc
      clear hc hsp l1 hN0
      have w1 : IntKind.i64.wrap ((a : Int) + 20 + 20) = (a : Int) + 20 + 20 := IntWalk.i64_in _ (by omega)
      have hltz : (a : Int) + 20 ≤ (N : Int) := by omega
      go_wp2_with fail
      refine (HC.out).mono ?_
      rintro e w1 ⟨rfl, hg1, hr1⟩
      have HR1 := Lib.hid hr1
      clear hr1
      go_wp2
      exact ⟨⟨a + 20, t + 1, by omega, by go_num, by go_num, gTrans hg hg1, Lib.hid ⟨by have := HR.out.1; omega, HR1.out⟩⟩, by simp [intOf]; omega⟩
    · have hsp : blks lt 20 (O.take a) ++ O.drop a = blks lt 20 (O.take a) ++ O.drop a ++ [] := by simp
      have hc := insSort g cap N a N (blks lt 20 (O.take a)) (O.drop a) [] wr
        (by rw [← hsp, List.length_append, l1, List.length_drop]; omega) hn l1 (by rw [List.length_drop]; omega) (by rw [← hsp]; exact HR.out.2)
      rw [← blks_le (s := 20) (by omega) (by rw [List.length_drop]; omega), ← blks_cut (by omega) HR.out.1 (by omega), List.append_nil] at hc
      have HC := Lib.hid hc
      clear hc hsp l1 hN0
      have hltz : ¬ (a : Int) + 20 ≤ (N : Int) := by omega
      go_wp2_with fail
      refine (HC.out).mono ?_
      rintro e w1 ⟨rfl, hg1, hr1⟩
      have hg2 := gTrans hg hg1
      have HR1 := Lib.hid hr1
      clear hr1
      obtain ⟨wo, rfl⟩ : ∃ wo : World, wo = w1 := ⟨_, rfl⟩
      go_wp2
      go_loopw [6, 7, 8, 9] (fun sv av bv mv wr => ∃ s : Nat, 20 ≤ s ∧ s ≤ 2 * N + 20 ∧ sv = .int .i64 s ∧ w.grownBy wr (some g) ∧ Hid (RowM g cap (blks lt s O) wr)) (fun sv _ _ _ _ => N - (intOf sv).toNat)
      case atStart => exact ⟨20, by omega, by omega, by go_num, hg2, HR1⟩
      case round =>
        obtain ⟨s, hs1, hs2, rfl, hgo, HRo⟩ := hrel
        by_cases hsn : s < N
        · have w0 : IntKind.i64.wrap (2 * (s : Int)) = 2 * (s : Int) := IntWalk.i64_in _ (by omega)
          obtain ⟨wo, rfl⟩ : ∃ wx : World, wx = wr := ⟨_, rfl⟩
          go_wp2
          go_loopw [7, 8] (fun av bv wr => ∃ a t : Nat, a ≤ N ∧ av = .int .i64 a ∧ bv = .int .i64 (a + 2 * s : Nat) ∧ w.grownBy wr (some g) ∧ Hid (a = t * (2 * s) ∧ RowM g cap (blks lt (2 * s) (O.take a) ++ blks lt s (O.drop a)) wr)) (fun av _ _ => N - (intOf av).toNat)
          case atStart => exact ⟨0, 0, by omega, rfl, by go_num, hgo, Lib.hid ⟨by omega, by simpa [blks_nil] using HRo.out⟩⟩
          case round =>
            obtain ⟨a, t, haN, rfl, rfl, hg3, HR3⟩ := hrel
            have hs0 : 0 < s := by omega
            by_cases hlt : a + 2 * s ≤ N
            · obtain ⟨h2, he⟩ := pair_up (O := O) (N := N) hs0 HR3.out.1 HN.out hlt
              have hc := symMerge (2 * s) g cap N a (a + s) (a + 2 * s) _ _ _ _ _ wr (by omega) h2 hn (by omega) (by omega) HR3.out.2
              rw [he] at hc
              have HC := Lib.hid hc
              clear hc h2 he
              have w1 : IntKind.i64.wrap ((a : Int) + s) = (a : Int) + s := IntWalk.i64_in _ (by omega)
              have w2 : IntKind.i64.wrap ((a : Int) + 2 * s + 2 * s) = (a : Int) + 2 * s + 2 * s := IntWalk.i64_in _ (by omega)
              have hltz : (a : Int) + 2 * s ≤ (N : Int) := by omega
              go_wp2_with fail
              refine (HC.out).mono ?_
              rintro e w1 ⟨rfl, hg4, hr4⟩
              have HR4 := Lib.hid hr4
              clear hr4
              go_wp2
              exact ⟨⟨a + 2 * s, t + 1, by omega, by go_num, by go_num, gTrans hg3 hg4, Lib.hid ⟨by rw [HR3.out.1, Nat.add_mul, Nat.one_mul], HR4.out⟩⟩, by simp [intOf]; omega⟩
            · have hltz : ¬ (a : Int) + 2 * s ≤ (N : Int) := by omega
              by_cases hm : a + s < N
              · obtain ⟨h2, he⟩ := pair_last (O := O) (N := N) hs0 HR3.out.1 HN.out hm (by omega)
                have hc := symMerge (2 * s) g cap N a (a + s) N _ _ _ _ _ wr (by omega) h2 hn (by omega) (by omega) HR3.out.2
                rw [he] at hc
                have HC := Lib.hid hc
                clear hc h2 he
                have w1 : IntKind.i64.wrap ((a : Int) + s) = (a : Int) + s := IntWalk.i64_in _ (by omega)
                have w2 : IntKind.i64.wrap ((s : Int) * 2) = (s : Int) * 2 := IntWalk.i64_in _ (by omega)
                go_wp2_with fail
                refine (HC.out).mono ?_
                rintro e w1 ⟨rfl, hg4, hr4⟩
                have HR4 := Lib.hid hr4
                clear hr4
                go_wp2
                exact ⟨⟨2 * s, by omega, by omega, by go_num, gTrans hg3 hg4, HR4⟩, by simp [intOf]; omega⟩
              · have he := pair_none (O := O) (N := N) hs0 HR3.out.1 HN.out haN (by omega)
                have hr4 := HR3.out.2
                rw [he] at hr4
                have HR4 := Lib.hid hr4
                clear hr4 he
                have w1 : IntKind.i64.wrap ((a : Int) + s) = (a : Int) + s := IntWalk.i64_in _ (by omega)
                have w2 : IntKind.i64.wrap ((s : Int) * 2) = (s : Int) * 2 := IntWalk.i64_in _ (by omega)
                go_wp2
                exact ⟨⟨2 * s, by omega, by omega, by go_num, hg3, HR4⟩, by simp [intOf]; omega⟩
        · have hz := HRo.out
          rw [blks_le (by omega) (by have := HN.out; omega)] at hz
          have HZ := Lib.hid hz
          clear hz
          go_wp2
          go_end0
          exact ⟨rfl, hgo, HZ.out⟩

/-- slices.SortStableFunc by the days: the row holds the stable sort of what it held. -/
theorem sortStable (g cap : Nat) (O : List Mv) (w : World) (hn : O.length ≤ 1000000) (hr : RowM g cap O w) :
    Calls Tryz.prog 41 #[.slice (some ⟨g, 0, none⟩) O.length cap, .func (.func 42) #[] #[]] w fun e w' =>
      e = .returned (.tuple #[]) ∧ w.grownBy w' (some g) ∧ RowM g cap (ss lt O) w' := by
  have HC := Lib.hid (stableCmp g cap O.length O w rfl hn hr)
  go_enter Tryz.func41, Tryz.ntmps41
  go_wp2_with fail
  refine (HC.out).mono ?_
  rintro e w1 ⟨rfl, hg, hr⟩
  go_wp2
  go_end0
  exact ⟨rfl, hg, hr⟩

theorem insNil (f : Value) (w : World) : Calls Tryz.prog 104 #[.slice none 0 0, .int .i64 0, .int .i64 0, f] w fun e w' => e = .returned (.tuple #[]) ∧ w = w' := by
  go_enter Tryz.func104, Tryz.ntmps104
  go_wp2
  refine wp_loop_rounds 1 ?_
  rw [rounds_succ]
  go_wp2
  go_end0
  exact ⟨rfl, rfl⟩
theorem stableNil (f : Value) (w : World) : Calls Tryz.prog 71 #[.slice none 0 0, .int .i64 0, f] w fun e w' => e = .returned (.tuple #[]) ∧ w = w' := by
  go_enter Tryz.func71, Tryz.ntmps71
  go_wp2
  refine wp_loop_rounds 1 ?_
  rw [rounds_succ]
  go_wp2_with fail
  refine (insNil f _).mono ?_
  rintro e w1 ⟨rfl, rfl⟩
  go_wp2
  refine wp_loop_rounds 1 ?_
  rw [rounds_succ]
  go_wp2
  go_end0
  exact ⟨rfl, rfl⟩
/-- A nil slice stays. -/
theorem sortNil (f : Value) (w : World) : Calls Tryz.prog 41 #[.slice none 0 0, f] w fun e w' => e = .returned (.tuple #[]) ∧ w = w' := by
  go_enter Tryz.func41, Tryz.ntmps41
  go_wp2_with fail
  refine (stableNil f _).mono ?_
  rintro e w1 ⟨rfl, rfl⟩
  go_wp2
  go_end0
  exact ⟨rfl, rfl⟩
end Go.Proofs.YtmngghglcgmkeaaGreatDoor.Mo
