/- The stable sort's swaps: rows of structs in an own block; a range of elements that is swapped with another one. -/
import Derived.Test.YtkbpdbfldijeeaaDoorStP
import Derived.Test.YtkbpdbfldijeeaaDoorProg
import Derived.WalkKit
import Derived.Below
import Derived.Laws.Rows
import Derived.Laws.AppendOwn
import Derived.OwnWalk
import Derived.Deep.QuietTactic
import Derived.BigRegion
import Derived.Lib.Hide
namespace Go.Proofs.YtkbpdbfldijeeaaDoor
open Go.RowKit

def wrMany (cur : Array Value) (o : Nat) : List Value → Array Value
  | [] => cur
  | v :: r => wrMany (cur.setIfInBounds o v) (o + 1) r
theorem wrMany_size : ∀ (vs : List Value) (cur : Array Value) (o : Nat), (wrMany cur o vs).size = cur.size
  | [], _, _ => rfl
  | v :: r, cur, o => by rw [wrMany, wrMany_size r]; simp
theorem wrMany_get : ∀ (vs : List Value) (cur : Array Value) (o t : Nat), o + vs.length ≤ cur.size → (wrMany cur o vs)[t]? = if o ≤ t ∧ t < o + vs.length then vs[t - o]? else cur[t]?
  | [], cur, o, t, _ => by rw [wrMany, if_neg (by rw [List.length_nil]; omega)]
  | v :: r, cur, o, t, h => by
    rw [List.length_cons] at h
    rw [wrMany, wrMany_get r _ _ _ (by simp; omega)]
    by_cases h1 : o + 1 ≤ t ∧ t < o + 1 + r.length
    · rw [if_pos h1, if_pos (by rw [List.length_cons]; omega), show t - o = (t - (o + 1)) + 1 by omega, List.getElem?_cons_succ]
    · rw [if_neg h1]
      by_cases h2 : t = o
      · subst h2
        rw [if_pos (by rw [List.length_cons]; omega), Nat.sub_self, List.getElem?_cons_zero, Array.getElem?_setIfInBounds, if_pos rfl, if_pos (by omega)]
      · rw [if_neg (by rw [List.length_cons]; omega), Array.getElem?_setIfInBounds, if_neg (by omega)]
theorem heap_setCells {g : Nat} {e : TypeId} : ∀ (vs : List Value) (w : World) (cur : Array Value) (o : Nat), w.heap[g]? = some (.cells cur e (0, 0)) → (w.setCells g o vs).heap[g]? = some (.cells (wrMany cur o vs) e (0, 0))
  | [], _, _, _, h => h
  | v :: r, w, cur, o, h => by
    rw [World.setCells, wrMany]
    refine heap_setCells r _ _ _ ?_
    simp [World.setCell, Array.getElem?_modify, h]
theorem gTrans {g : Nat} {a b c : World} (h : a.grownBy b (some g)) (k : b.grownBy c (some g)) : a.grownBy c (some g) :=
  ⟨k.os.trans h.os, k.tape.trans h.tape, k.output.trans h.output, Nat.le_trans h.size k.size, fun i hi hn => (k.block i (Nat.lt_of_lt_of_le hi h.size) hn).trans (h.block i hi hn)⟩
theorem gBelow {g : Nat} {a b : World} (h : Below a.heap.size a b) : a.grownBy b (some g) := ⟨h.os, h.tape, h.output, h.size, fun i hi _ => h.block i hi⟩
theorem gDrew {g : Nat} {a b : World} (h : a.grownBy b (some g)) : a.grownBy b.drew (some g) := ⟨h.os, h.tape, h.output, h.size, h.block⟩
theorem grown_setCells {g : Nat} : ∀ (vs : List Value) (w : World) (o : Nat), w.grownBy (w.setCells g o vs) (some g)
  | [], w, _ => World.grownBy.refl _ _
  | v :: r, w, o => by
    rw [World.setCells]
    have h1 : w.grownBy (w.setCell ⟨g, o, none⟩ v) (some g) := ⟨rfl, rfl, rfl, by simp [World.setCell], fun k _ hk => Below.heap_setCell _ _ _ _ (by simpa using hk)⟩
    exact gTrans h1 (grown_setCells r _ _)

/-- Block g: a row of l's elements, k cells each. -/
def Rw {α : Type} (enc : α → List Value) (k : Nat) (e : TypeId) (g cap : Nat) (l : List α) (w : World) : Prop :=
  ∃ cur, w.heap[g]? = some (.cells cur e (0, 0)) ∧ cur.size = cap * k ∧ l.length ≤ cap ∧ ∀ i x, l[i]? = some x → ∀ j u, (enc x)[j]? = some u → cur[i * k + j]? = some u

section
variable {α : Type} {enc : α → List Value} {k : Nat} {e : TypeId} {g cap : Nat} {l : List α} {w w' : World}
theorem Rw.cell (h : Rw enc k e g cap l w) {i : Nat} {x : α} (hx : l[i]? = some x) {j : Nat} {u : Value} (hu : (enc x)[j]? = some u) : w.cell? ⟨g, i * k + j, none⟩ = some u := by
  obtain ⟨cur, hc, _, _, hh⟩ := h
  have := hh i x hx j u hu
  simp [World.cell?, hc, this]
theorem Rw.frozen (h : Rw enc k e g cap l w) (o : Nat) : w.frozen? ⟨g, o, none⟩ = false := by
  obtain ⟨cur, hc, _⟩ := h
  simp [World.frozen?, hc]
theorem Rw.lt (h : Rw enc k e g cap l w) : g < w.heap.size := by
  obtain ⟨cur, hc, _⟩ := h
  exact (Array.getElem?_eq_some_iff.1 hc).1
theorem Rw.le (h : Rw enc k e g cap l w) : l.length ≤ cap := by
  obtain ⟨cur, _, _, hc, _⟩ := h
  exact hc
theorem Rw.drew (h : Rw enc k e g cap l w) : Rw enc k e g cap l w.drew := h
theorem Rw.drewN (h : Rw enc k e g cap l w) (n : Nat) : Rw enc k e g cap l (w.drewN n) := h
theorem Rw.below {B : Nat} (h : Rw enc k e g cap l w) (hb : Below B w w') (hg : g < B) : Rw enc k e g cap l w' := by
  obtain ⟨cur, hc, hr⟩ := h
  exact ⟨cur, (hb.block g hg).trans hc, hr⟩
theorem Rw.set_ (hk : ∀ x, (enc x).length = k) (h : Rw enc k e g cap l w) {i : Nat} (hi : i < l.length) (y : α) : Rw enc k e g cap (l.set i y) (w.setCells g (i * k) (enc y)) := by
  obtain ⟨cur, hc, hs, hl, hh⟩ := h
  have hb : i * k + k ≤ cur.size := by
    have := Nat.mul_le_mul_right k (show i + 1 ≤ cap by omega)
    rw [Nat.add_mul, Nat.one_mul] at this; omega
  refine ⟨_, heap_setCells _ _ _ _ hc, by rw [wrMany_size, hs], by simpa using hl, fun t x hx j u hu => ?_⟩
  have hj : j < k := by rw [← hk x]; exact (List.getElem?_eq_some_iff.1 hu).1
  rw [wrMany_get _ _ _ _ (by rw [hk]; exact hb), hk]
  rw [List.getElem?_set] at hx
  by_cases ht : i = t
  · subst ht
    rw [if_pos rfl, if_pos hi] at hx
    cases hx
    rw [if_pos (by omega), Nat.add_sub_cancel_left]
    exact hu
  · rw [if_neg ht] at hx
    rw [if_neg]
    · exact hh t x hx j u hu
    · rintro ⟨h1, h2⟩
      rcases Nat.lt_or_gt_of_ne ht with h3 | h3
      · have := Nat.mul_le_mul_right k (show i + 1 ≤ t from h3)
        rw [Nat.add_mul, Nat.one_mul] at this; omega
      · have := Nat.mul_le_mul_right k (show t + 1 ≤ i from h3)
        rw [Nat.add_mul, Nat.one_mul] at this; omega
end
theorem get_mid {α : Type} (P Q : List α) (x : α) {n : Nat} (h : P.length = n) : (P ++ x :: Q)[n]? = some x := by subst h; simp
theorem set_mid {α : Type} (P Q : List α) (x y : α) {n : Nat} (h : P.length = n) : (P ++ x :: Q).set n y = P ++ y :: Q := by subst h; simp

theorem store_func {P : Program} (f : Fn) (aa bb : Array Value) (w : World) (p : Addr) (h1 : (w.cell? p).isSome = true) (h2 : w.frozen? p = false) : Sem.run P (store p (.func f aa bb)) w = .ok () (w.setCell p (.func f aa bb)) := by
  obtain ⟨u, hu⟩ := Option.isSome_iff_exists.1 h1
  rw [run_store _ w p _ _ rfl, hu]; simp [h2]

abbrev El := Int × Fn × Array Value × Array Value
def enc (x : El) : List Value := [.int .i64 x.1, .func x.2.1 x.2.2.1 x.2.2.2]
theorem enc_len (x : El) : (enc x).length = 2 := rfl
abbrev Row (g cap : Nat) (l : List El) (w : World) : Prop := Rw enc 2 56 g cap l w

/-- Two elements change places. -/
theorem Row.swap {g cap : Nat} {P M Q : List El} {x y : El} {w : World} (h : Row g cap (P ++ x :: (M ++ y :: Q)) w) {i j : Nat} (hi : P.length = i) (hj : i + 1 + M.length = j) :
    w.grownBy ((w.setCells g (i * 2) (enc y)).setCells g (j * 2) (enc x)) (some g) ∧ Row g cap (P ++ y :: (M ++ x :: Q)) ((w.setCells g (i * 2) (enc y)).setCells g (j * 2) (enc x)) := by
  have h1 := Rw.set_ enc_len h (i := i) (by simp; omega) y
  rw [set_mid _ _ _ _ hi] at h1
  have h2 := Rw.set_ enc_len h1 (i := j) (by simp; omega) x
  have e : P ++ y :: (M ++ y :: Q) = (P ++ y :: M) ++ y :: Q := by simp
  rw [e, set_mid _ _ _ _ (by simp; omega)] at h2
  exact ⟨gTrans (grown_setCells _ _ _) (grown_setCells _ _ _), by simpa using h2⟩

/-- The same, the later cells written first. -/
theorem Row.swapUp {g cap : Nat} {P M Q : List El} {x y : El} {w : World} (h : Row g cap (P ++ x :: (M ++ y :: Q)) w) {i j : Nat} (hi : P.length = i) (hj : i + 1 + M.length = j) :
    w.grownBy ((w.setCells g (j * 2) (enc x)).setCells g (i * 2) (enc y)) (some g) ∧ Row g cap (P ++ y :: (M ++ x :: Q)) ((w.setCells g (j * 2) (enc x)).setCells g (i * 2) (enc y)) := by
  have h1 := Rw.set_ enc_len h (i := j) (by simp; omega) x
  have e : P ++ x :: (M ++ y :: Q) = (P ++ x :: M) ++ y :: Q := by simp
  rw [e, set_mid _ _ _ _ (by simp; omega)] at h1
  have h2 := Rw.set_ enc_len h1 (i := i) (by simp; omega) y
  have e2 : P ++ x :: M ++ x :: Q = P ++ x :: (M ++ x :: Q) := by simp
  rw [e2, set_mid _ _ _ _ hi] at h2
  exact ⟨gTrans (grown_setCells _ _ _) (grown_setCells _ _ _), h2⟩

set_option maxHeartbeats 400000 in
theorem swapRange (g cap N a b n : Nat) (A X M Y Z : List El) (F : Value) (w : World) (hN : (A ++ X ++ M ++ Y ++ Z).length = N) (hn : N ≤ 1000000) (ha : A.length = a) (hb : a + X.length + M.length = b) (hX : X.length = n) (hY : Y.length = n)
    (hr : Row g cap (A ++ X ++ M ++ Y ++ Z) w) :
    Calls Tryd.prog 55 #[.slice (some ⟨g, 0, none⟩) N cap, .int .i64 a, .int .i64 b, .int .i64 n, F] w fun e w' =>
      e = .returned (.tuple #[]) ∧ w.grownBy w' (some g) ∧ Row g cap (A ++ Y ++ M ++ X ++ Z) w' := by
  have hbn : b + n ≤ N := by simp at hN; omega
  have han : a + n ≤ b := by omega
  have HH := Lib.hid (show _ from And.intro hN (And.intro ha (And.intro hb (And.intro hX hY))))
  clear hN ha hb hX hY
  go_enter Tryd.func55, Tryd.ntmps55
  go_wp2
  go_loopw [10] (fun iv wr => ∃ i : Nat, i ≤ n ∧ iv = .int .i64 i ∧ w.grownBy wr (some g) ∧ ∃ A' X' M' Y' : List El, Row g cap (A' ++ X' ++ M' ++ Y' ++ Z) wr ∧ A ++ Y ++ M ++ X ++ Z = A' ++ Y' ++ M' ++ X' ++ Z ∧ A'.length = a + i ∧ a + i + X'.length + M'.length = b + i ∧ X'.length + i = n ∧ Y'.length + i = n) (fun iv _ => n - (intOf iv).toNat)
  case atStart => exact ⟨0, Nat.zero_le _, rfl, World.grownBy.refl _ _, A, X, M, Y, hr, rfl, HH.out.2.1, HH.out.2.2.1, HH.out.2.2.2.1, HH.out.2.2.2.2⟩
  case round =>
    obtain ⟨i, hi, rfl, hg, A', X', M', Y', hrr, hT, hA, hM, hX, hY⟩ := hrel
    by_cases hlt : i < n
    · obtain ⟨x, X', rfl⟩ := List.exists_cons_of_length_pos (show 0 < X'.length by omega)
      obtain ⟨y, Y', rfl⟩ := List.exists_cons_of_length_pos (show 0 < Y'.length by omega)
      obtain ⟨xa, fa, aa, ba⟩ := x
      obtain ⟨xb, fb, ab, bb⟩ := y
      rw [List.length_cons] at hX hY hM
      have hr1 : Row g cap (A' ++ (xa, fa, aa, ba) :: ((X' ++ M') ++ (xb, fb, ab, bb) :: (Y' ++ Z))) wr := by simpa using hrr
      have gx := get_mid A' ((X' ++ M') ++ (xb, fb, ab, bb) :: (Y' ++ Z)) (xa, fa, aa, ba) hA
      have gy : (A' ++ (xa, fa, aa, ba) :: ((X' ++ M') ++ (xb, fb, ab, bb) :: (Y' ++ Z)))[b + i]? = some (xb, fb, ab, bb) := by
        have := get_mid (A' ++ (xa, fa, aa, ba) :: (X' ++ M')) (Y' ++ Z) (xb, fb, ab, bb) (n := b + i) (by simp; omega)
        simpa using this
      have hsw := hr1.swap (i := a + i) (j := b + i) hA (by simp; omega)
      obtain ⟨pa, hpa⟩ : ∃ p, (a + i) * 2 = p := ⟨_, rfl⟩
      obtain ⟨pb, hpb⟩ : ∃ p, (b + i) * 2 = p := ⟨_, rfl⟩
      have c1 : wr.cell? ⟨g, pa, none⟩ = some (.int .i64 xa) := hpa ▸ Rw.cell hr1 gx (j := 0) rfl
      have c2 : wr.cell? ⟨g, pa + 1, none⟩ = some (.func fa aa ba) := hpa ▸ Rw.cell hr1 gx (j := 1) rfl
      have c3 : wr.cell? ⟨g, pb, none⟩ = some (.int .i64 xb) := hpb ▸ Rw.cell hr1 gy (j := 0) rfl
      have c4 : wr.cell? ⟨g, pb + 1, none⟩ = some (.func fb ab bb) := hpb ▸ Rw.cell hr1 gy (j := 1) rfl
      have f1 : wr.frozen? ⟨g, pa, none⟩ = false := hrr.frozen _
      have f2 : wr.frozen? ⟨g, pa + 1, none⟩ = false := hrr.frozen _
      have f3 : wr.frozen? ⟨g, pb, none⟩ = false := hrr.frozen _
      have f4 : wr.frozen? ⟨g, pb + 1, none⟩ = false := hrr.frozen _
      have n1 : ¬ pa = pb := by omega
      have n2 : ¬ pa + 1 = pb := by omega
      have n3 : ¬ pa = pb + 1 := by omega
      have w1 : IntKind.i64.wrap ((a : Int) + i) = (a : Int) + i := IntWalk.i64_in _ (by omega)
      have w2 : IntKind.i64.wrap ((b : Int) + i) = (b : Int) + i := IntWalk.i64_in _ (by omega)
      have st1 := store_func (P := Tryd.prog) fa aa ba
      have st2 := store_func (P := Tryd.prog) fb ab bb
      rw [hpa, hpb] at hsw
      have HS := Lib.hid hsw
      have HT := Lib.hid hT
      have HL := Lib.hid (And.intro hA (And.intro hM (And.intro hX hY)))
      clear hsw hT hA hM hX hY gx gy hr1 hrr hr
      go_wp2_with fail
      go_region
      all_goals go_wp2
      have hx : Row g cap ((A' ++ [(xb, fb, ab, bb)]) ++ X' ++ (M' ++ [(xa, fa, aa, ba)]) ++ Y' ++ Z) ((wr.setCells g pa (enc (xb, fb, ab, bb))).setCells g pb (enc (xa, fa, aa, ba))) := by
        have := HS.out.2; simp only [List.append_assoc, List.cons_append, List.nil_append] at this ⊢; exact this
      have hy := gDrew (gTrans hg HS.out.1)
      have hL := HL.out
      all_goals refine ⟨⟨i + 1, by omega, by go_num, hy, A' ++ [(xb, fb, ab, bb)], X', M' ++ [(xa, fa, aa, ba)], Y', Rw.drew hx, by rw [HT.out]; simp, ?_, ?_, ?_, ?_⟩, by simp [intOf]; omega⟩
      all_goals (try simp only [List.length_append, List.length_cons, List.length_nil])
      all_goals omega
    · have h0 : i = n := by omega
      have hX0 : X' = [] := List.length_eq_zero_iff.1 (by omega)
      have hY0 : Y' = [] := List.length_eq_zero_iff.1 (by omega)
      rw [hX0, hY0] at hT hrr
      rw [← hT] at hrr
      have HR := Lib.hid hrr
      clear hT hA hM hX hY hrr hr hX0 hY0
      go_wp2
      go_end0
      exact ⟨rfl, hg, HR.out⟩

/-- Two ranges that touch change places. -/
theorem rotate (g cap N a m b : Nat) (A X Y Z : List El) (F : Value) (w : World) (hN : (A ++ X ++ Y ++ Z).length = N) (hn : N ≤ 1000000) (ha : A.length = a) (hm : a + X.length = m) (hb : m + Y.length = b) (hX0 : 0 < X.length) (hY0 : 0 < Y.length) (hr : Row g cap (A ++ X ++ Y ++ Z) w) :
    Calls Tryd.prog 50 #[.slice (some ⟨g, 0, none⟩) N cap, .int .i64 a, .int .i64 m, .int .i64 b, F] w fun e w' =>
      e = .returned (.tuple #[]) ∧ w.grownBy w' (some g) ∧ Row g cap (A ++ Y ++ X ++ Z) w' := by
  have hbN : b ≤ N := by simp at hN; omega
  have ham : a < m := by omega
  have hmb : m < b := by omega
  have hlen : ∀ A' X' Y' Z' : List El, A ++ Y ++ X ++ Z = A' ++ Y' ++ X' ++ Z' → (A' ++ X' ++ Y' ++ Z').length = N := fun A' X' Y' Z' h => by
    have := congrArg List.length h
    simp only [List.length_append] at this hN ⊢
    omega
  have HL := Lib.hid hlen
  have HH := Lib.hid (show _ from And.intro hN (And.intro ha (And.intro hm hb)))
  clear hN ha hb hm hlen hX0 hY0
  go_enter Tryd.func50, Tryd.ntmps50
  go_wp2
  go_loopw [10, 11] (fun iv jv wr => ∃ i j : Nat, 0 < i ∧ 0 < j ∧ i ≤ m ∧ m + j ≤ b ∧ iv = .int .i64 i ∧ jv = .int .i64 j ∧ w.grownBy wr (some g) ∧ ∃ A' X' Y' Z' : List El, Row g cap (A' ++ X' ++ Y' ++ Z') wr ∧ A ++ Y ++ X ++ Z = A' ++ Y' ++ X' ++ Z' ∧ A'.length + i = m ∧ X'.length = i ∧ Y'.length = j) (fun iv jv _ => (intOf iv).toNat + (intOf jv).toNat)
  case atStart =>
    refine ⟨m - a, b - m, by omega, by omega, by omega, by omega, by congr 1; omega, by congr 1; omega, World.grownBy.refl _ _, A, X, Y, Z, hr, rfl, ?_, ?_, ?_⟩
    all_goals (have := HH.out; omega)
  case round =>
    obtain ⟨i, j, h0i, h0j, hi, hj, rfl, rfl, hg, A', X', Y', Z', hrr, hT, hA, hX, hY⟩ := hrel
    have w1 : IntKind.i64.wrap ((m : Int) - i) = ((m - i : Nat) : Int) := by rw [IntWalk.i64_in _ (by omega)]; omega
    by_cases he : i = j
    · subst he
      have hc := fun W hW => swapRange g cap N (m - i) m i A' X' [] Y' Z' F W (by simpa using HL.out _ _ _ _ hT) hn (by omega) (by simp; omega) hX hY hW
      simp only [List.append_nil] at hc
      have HC := Lib.hid (hc wr hrr)
      have HT := Lib.hid hT
      clear hc hrr hr hT hA hX hY
      go_wp2_with fail
      refine (HC.out).mono ?_
      rintro e w1 ⟨rfl, hg1, hr1⟩
      have HR := Lib.hid hr1
      clear hr1
      go_wp2
      go_end0
      exact ⟨rfl, gTrans hg hg1, by rw [HT.out]; exact HR.out⟩
    · have hne : ((i : Int) != j) = true := by simp; omega
      rcases Nat.lt_or_gt_of_ne he with h | h
      · -- i < j
        have w2 : IntKind.i64.wrap ((j : Int) - i) = ((j - i : Nat) : Int) := by rw [IntWalk.i64_in _ (by omega)]; omega
        have w3 : IntKind.i64.wrap ((m : Int) + j) = (m : Int) + j := IntWalk.i64_in _ (by omega)
        have w4 : IntKind.i64.wrap ((m : Int) + j - i) = ((m + j - i : Nat) : Int) := by rw [IntWalk.i64_in _ (by omega)]; omega
        have e1 : Y' = Y'.take (j - i) ++ Y'.drop (j - i) := (List.take_append_drop _ _).symm
        have l1 : (Y'.take (j - i)).length = j - i := by rw [List.length_take]; omega
        have l2 : (Y'.drop (j - i)).length = i := by rw [List.length_drop]; omega
        generalize Y'.take (j - i) = Y1 at e1 l1
        generalize Y'.drop (j - i) = Y2 at e1 l2
        subst e1
        have hc := swapRange g cap N (m - i) (m + j - i) i A' X' Y1 Y2 Z' F wr (by have := HL.out _ _ _ _ hT; simp only [List.length_append] at this ⊢; omega) hn (by omega) (by omega) hX l2 (by simpa using hrr)
        have HC := Lib.hid hc
        have HT := Lib.hid (And.intro hT (And.intro hA (And.intro hX (And.intro l1 l2))))
        clear hc hrr hr hT hA hX hY he l1 l2
        go_wp2_with fail
        refine (HC.out).mono ?_
        rintro e w1 ⟨rfl, hg1, hr1⟩
        have HR := Lib.hid hr1
        clear hr1
        go_wp2
        refine ⟨⟨i, j - i, by omega, by omega, by omega, by omega, rfl, by go_num, gTrans hg hg1, A', Y2, Y1, X' ++ Z', by simpa using HR.out, by rw [HT.out.1]; simp, ?_, ?_, ?_⟩, by simp [intOf]; omega⟩
        all_goals (have := HT.out.2; omega)
      · -- j < i
        have w2 : IntKind.i64.wrap ((i : Int) - j) = ((i - j : Nat) : Int) := by rw [IntWalk.i64_in _ (by omega)]; omega
        have e1 : X' = X'.take j ++ X'.drop j := (List.take_append_drop _ _).symm
        have l1 : (X'.take j).length = j := by rw [List.length_take]; omega
        have l2 : (X'.drop j).length = i - j := by rw [List.length_drop]; omega
        generalize X'.take j = X1 at e1 l1
        generalize X'.drop j = X2 at e1 l2
        subst e1
        have hc := swapRange g cap N (m - i) m j A' X1 X2 Y' Z' F wr (by have := HL.out _ _ _ _ hT; simp only [List.length_append] at this ⊢; omega) hn (by omega) (by omega) l1 hY (by simpa using hrr)
        have HC := Lib.hid hc
        have HT := Lib.hid (And.intro hT (And.intro hA (And.intro hY (And.intro l1 l2))))
        clear hc hrr hr hT hA hX hY he l1 l2
        go_wp2_with fail
        refine (HC.out).mono ?_
        rintro e w1 ⟨rfl, hg1, hr1⟩
        have HR := Lib.hid hr1
        clear hr1
        go_wp2
        refine ⟨⟨i - j, j, by omega, by omega, by omega, by omega, by go_num, rfl, gTrans hg hg1, A' ++ Y', X2, X1, Z', by simpa using HR.out, by rw [HT.out.1]; simp, ?_, ?_, ?_⟩, by simp [intOf]; omega⟩
        all_goals (have := HT.out.2; (try simp only [List.length_append]); omega)
end Go.Proofs.YtkbpdbfldijeeaaDoor
