/- Leave's texts (gen/mklv.py): Lfi Fo Cix Own De Mv Ck Fd Fold Folb Ref Reg. -/
import Derived.Test.YtmngghglcgmkeaaGreatDoorLva
import Derived.Test.YtmngghglcgmkeaaGreatDoorGrow
import Derived.Test.YtmngghglcgmkeaaGreatDoorBk
import Derived.Test.YtmngghglcgmkeaaGreatDoorCivs
import Derived.IntWalk
import Derived.OwnWalk
import Derived.BigRegion
import Derived.Laws.OwnMore
namespace Go.Proofs.YtmngghglcgmkeaaGreatDoor.Lv
open Go.RowKit Go.Sort Go.BigFrame

/-- A year's first day. -/
theorem first_of (y : Int) (w : World) (ht : Tab w) (h1 : 1900 ≤ y) (h2 : y ≤ 2199) : Calls Tryz.prog 38 #[.int .i64 y] w fun e w' => e = .returned (.int .i64 (Cal.st y - 25567)) ∧ Grows w w' := by
  have L := Lib.hid (Cal.num_jan y)
  go_enter Tryz.func38, Tryz.ntmps38
  go_wp2_with fail
  refine (civ_Of y 1 1 _ ht (Cal.ok_jan h1 h2)).mono ?_
  rintro e w1 ⟨rfl, hg⟩
  rw [L.out]
  go_wp2
  go_ret
  exact ⟨rfl, hg⟩
end Go.Proofs.YtmngghglcgmkeaaGreatDoor.Lv

namespace Go.Proofs.YtmngghglcgmkeaaGreatDoor.Lv
open Go.RowKit Go.Sort

/-- The folding's cells. -/
def foC (yr ca ex : Int) (s : Fo) : Array Value := #[.int .i64 s.g, .int .i64 s.t, .int .i64 s.e, .int .i64 s.l, .int .i64 yr, .int .i64 ca, .int .i64 ex, .int .i64 s.fr, .int .i64 s.cr]
abbrev Fd (fb : Nat) (yr ca ex : Int) (s : Fo) (w : World) : Prop := Bk fb 128 (foC yr ca ex s) w

set_option maxHeartbeats 1000000 in
theorem fo_lose (fb n : Nat) (yr ca ex : Int) (s : Fo) (w : World) (hn : n ≤ 1000000) (hi : Inv n s) (h : Fd fb yr ca ex s w) :
    Calls Tryz.prog 98 #[.pointer (some ⟨fb, 0, none⟩)] w fun e w' => e = .returned (.tuple #[]) ∧ w.grownBy w' (some fb) ∧ Fd fb yr ca ex (loseV s) w' := by
  have bd := hi.bd
  have b2 := hi.e0
  have b3 := hi.c0
  obtain ⟨sg, st, se, sl, sf, sc⟩ := s
  simp only at bd b2 b3
  have c2 : w.cell? ⟨fb, 2, none⟩ = some (.int .i64 se) := h.cell 2
  have c8 : w.cell? ⟨fb, 8, none⟩ = some (.int .i64 sc) := h.cell 8
  have f2 : w.frozen? ⟨fb, 2, none⟩ = false := h.frozen 2
  have f8 : w.frozen? ⟨fb, 8, none⟩ = false := h.frozen 8
  have H := Lib.hid h
  clear h
  go_enter Tryz.func98, Tryz.ntmps98
  go_wp2
  go_region
  all_goals go_wp2
  all_goals (go_end0; exact ⟨rfl, gDrew (gTrans (gSet _ _ _) (gSet _ _ _)), ((H.out.set_ 2 _).set_ 8 _).drew⟩)

set_option maxHeartbeats 1000000 in
theorem fo_turn (fb n : Nat) (yr ca ex : Int) (s : Fo) (w : World) (hn : n ≤ 1000000) (hi : Inv n s) (hca : 0 ≤ ca) (hca2 : ca ≤ 1000000) (h : Fd fb yr ca ex s w) :
    Calls Tryz.prog 96 #[.pointer (some ⟨fb, 0, none⟩)] w fun e w' => e = .returned (.tuple #[]) ∧ w.grownBy w' (some fb) ∧ Fd fb yr ca ex (turnV ca ex s) w' := by
  have H1 := Lib.hid (fo_lose fb n yr ca ex s w hn hi h)
  have I1 := Lib.hid hi.lose
  clear h hi
  go_enter Tryz.func96, Tryz.ntmps96
  go_wp2_with fail
  refine (H1.out).mono ?_
  rintro e w1 ⟨rfl, hg, h⟩
  have bd := I1.out.bd
  have b2 := I1.out.e0
  have b3 := I1.out.c0
  have TU : Hid (turnV ca ex s = if ex = 0 then loseV (keepV ca (loseV s)) else keepV ca (loseV s)) := Lib.hid rfl
  have I2 := Lib.hid (I1.out.keep hca rfl)
  have E0 : Hid ((loseV s).cr = 0) := Lib.hid rfl
  generalize loseV s = s1 at *
  obtain ⟨sg, st, se, sl, sf, sc⟩ := s1
  simp only at bd b2 b3
  have c2 : w1.cell? ⟨fb, 2, none⟩ = some (.int .i64 se) := h.cell 2
  have c5 : w1.cell? ⟨fb, 5, none⟩ = some (.int .i64 ca) := h.cell 5
  have c6 : w1.cell? ⟨fb, 6, none⟩ = some (.int .i64 ex) := h.cell 6
  have c7 : w1.cell? ⟨fb, 7, none⟩ = some (.int .i64 sf) := h.cell 7
  have c8 : w1.cell? ⟨fb, 8, none⟩ = some (.int .i64 sc) := h.cell 8
  have f2 : w1.frozen? ⟨fb, 2, none⟩ = false := h.frozen 2
  have f7 : w1.frozen? ⟨fb, 7, none⟩ = false := h.frozen 7
  have f8 : w1.frozen? ⟨fb, 8, none⟩ = false := h.frozen 8
  have H := Lib.hid h
  clear h
  by_cases hf : 0 < sf
  · have KV : Hid (keepV ca ⟨sg, st, se, sl, sf, sc⟩ = ⟨sg, st, se + (sf - min sf ca), sl, 0, min sf ca⟩) := Lib.hid (by unfold keepV; rw [if_pos hf])
    obtain ⟨k, hk⟩ : ∃ k, min sf ca = k := ⟨_, rfl⟩
    have k1 : 0 ≤ k := by omega
    have k2 : k ≤ sf := by omega
    have KM : Hid ((if ca < sf then ca else sf) = k) := Lib.hid (by split <;> omega)
    rw [hk] at KV
    clear hk
    rw [KV.out] at TU I2
    by_cases hx : ex = 0
    · have hx1 : (ex == 0) = true := by simp [hx]
      have TU2 : Hid (turnV ca ex s = loseV ⟨sg, st, se + (sf - k), sl, 0, k⟩) := Lib.hid (by rw [TU.out, if_pos hx])
      clear hx
      go_wp2
      go_region
      rw [KM.out]
      go_wp2
      go_region
      go_wp2_with fail
      refine (fo_lose fb n yr ca ex ⟨sg, st, se + (sf - k), sl, 0, k⟩ _ hn I2.out (by exact ((H.out.set_ 2 _).set_ 7 _).set_ 8 _)).mono ?_
      rintro e w2 ⟨rfl, hg2, h2⟩
      go_wp2
      go_end0
      exact ⟨rfl, gTrans (gTrans hg (by exact gDrew (gDrew (gTrans (gTrans (gSet _ _ _) (gSet _ _ _)) (gSet _ _ _))))) hg2, by rw [TU2.out]; exact h2⟩
    · have hx1 : (ex == 0) = false := by simp [hx]
      have TU2 : Hid (turnV ca ex s = ⟨sg, st, se + (sf - k), sl, 0, k⟩) := Lib.hid (by rw [TU.out, if_neg hx])
      clear hx
      go_wp2
      go_region
      rw [KM.out]
      go_wp2
      go_region
      go_wp2
      go_end0
      exact ⟨rfl, gTrans hg (by exact gDrew (gDrew (gTrans (gTrans (gSet _ _ _) (gSet _ _ _)) (gSet _ _ _)))), by rw [TU2.out]; exact ((H.out.set_ 2 _).set_ 7 _).set_ 8 _⟩
  · have KV : Hid (keepV ca ⟨sg, st, se, sl, sf, sc⟩ = ⟨sg, st, se, sl, sf, sc⟩) := Lib.hid (by unfold keepV; rw [if_neg hf])
    rw [KV.out] at TU I2
    by_cases hx : ex = 0
    · have hx1 : (ex == 0) = true := by simp [hx]
      have TU2 : Hid (turnV ca ex s = loseV ⟨sg, st, se, sl, sf, sc⟩) := Lib.hid (by rw [TU.out, if_pos hx])
      clear hx
      go_wp2_with fail
      refine (fo_lose fb n yr ca ex ⟨sg, st, se, sl, sf, sc⟩ _ hn I2.out (by exact H.out)).mono ?_
      rintro e w2 ⟨rfl, hg2, h2⟩
      go_wp2
      go_end0
      exact ⟨rfl, gTrans hg hg2, by rw [TU2.out]; exact h2⟩
    · have hx1 : (ex == 0) = false := by simp [hx]
      have TU2 : Hid (turnV ca ex s = ⟨sg, st, se, sl, sf, sc⟩) := Lib.hid (by rw [TU.out, if_neg hx])
      clear hx
      go_wp2
      go_end0
      exact ⟨rfl, hg, by rw [TU2.out]; exact H.out⟩

set_option maxHeartbeats 2000000 in
theorem fo_move (fb n : Nat) (yr ca ex d gr tk : Int) (s : Fo) (w : World) (hn : n ≤ 1000000) (hi : Inv n s) (m1 : 0 ≤ gr) (m2 : gr ≤ 1000000) (m3 : 0 ≤ tk) (m4 : tk ≤ 1000000) (h : Fd fb yr ca ex s w) :
    Calls Tryz.prog 64 #[.pointer (some ⟨fb, 0, none⟩), .agg #[.int .i64 d, .int .i64 gr, .int .i64 tk]] w fun e w' => e = .returned (.tuple #[]) ∧ w.grownBy w' (some fb) ∧ Fd fb yr ca ex (moveV gr tk s) w' := by
  have bd := hi.bd
  have g0 := hi.g0
  have g1 := hi.g1
  have t0 := hi.t0
  have t1 := hi.t1
  have b2 := hi.e0
  have b3 := hi.c0
  clear hi
  obtain ⟨sg, st, se, sl, sf, sc⟩ := s
  simp only at bd b2 b3 g0 g1 t0 t1
  have MV : Hid (moveV gr tk ⟨sg, st, se, sl, sf, sc⟩ = ⟨sg + gr, st + tk, se, sl, sf + (gr - (tk - min sc tk)), sc - min sc tk⟩) := Lib.hid rfl
  obtain ⟨k, hk⟩ : ∃ k, min sc tk = k := ⟨_, rfl⟩
  have k1 : 0 ≤ k := by omega
  have k2 : k ≤ sc := by omega
  have k3 : k ≤ tk := by omega
  have KM : Hid ((if tk < sc then tk else sc) = k) := Lib.hid (by split <;> omega)
  rw [hk] at MV
  clear hk
  have hl := h.lt
  have c0 : w.cell? ⟨fb, 0, none⟩ = some (.int .i64 sg) := h.cell 0
  have c1 : w.cell? ⟨fb, 1, none⟩ = some (.int .i64 st) := h.cell 1
  have c7 : w.cell? ⟨fb, 7, none⟩ = some (.int .i64 sf) := h.cell 7
  have c8 : w.cell? ⟨fb, 8, none⟩ = some (.int .i64 sc) := h.cell 8
  have f0 : w.frozen? ⟨fb, 0, none⟩ = false := h.frozen 0
  have f1 : w.frozen? ⟨fb, 1, none⟩ = false := h.frozen 1
  have f7 : w.frozen? ⟨fb, 7, none⟩ = false := h.frozen 7
  have f8 : w.frozen? ⟨fb, 8, none⟩ = false := h.frozen 8
  have H := Lib.hid h
  clear h
  go_enter Tryz.func64, Tryz.ntmps64
  go_wp2
  go_region
  all_goals go_wp2
  all_goals go_region
  all_goals go_wp2
  all_goals go_region
  all_goals rw [KM.out]
  all_goals go_wp2
  all_goals go_region
  all_goals go_wp2
  all_goals go_end0
  all_goals exact ⟨rfl, by exact gDrew (gDrew (gDrew (gDrew (gTrans (gTrans (gTrans (gTrans (gSet _ _ _) (gSet _ _ _)) (gSet _ _ _)) (gSet _ _ _)) ((Grows.of_alloc _ _).grownBy _))))), by rw [MV.out]; exact (((((H.out.set_ 0 _).set_ 1 _).set_ 8 _).set_ 7 _).grows (.of_alloc _ _)).drew.drew.drew.drew⟩

/-- The closure of a move's day. -/
theorem fo_do (fb fv mb n : Nat) (yr ca ex d gr tk : Int) (s : Fo) (w : World) (hn : n ≤ 1000000) (hi : Inv n s) (m1 : 0 ≤ gr) (m2 : gr ≤ 1000000) (m3 : 0 ≤ tk) (m4 : tk ≤ 1000000) (h : Fd fb yr ca ex s w)
    (hf : w.cell? ⟨fv, 0, none⟩ = some (.pointer (some ⟨fb, 0, none⟩))) (h0 : w.cell? ⟨mb, 0, none⟩ = some (.int .i64 d)) (h1 : w.cell? ⟨mb, 1, none⟩ = some (.int .i64 gr)) (h2 : w.cell? ⟨mb, 2, none⟩ = some (.int .i64 tk)) :
    Calls Tryz.prog 63 #[.pointer (some ⟨fv, 0, none⟩), .pointer (some ⟨mb, 0, none⟩)] w fun e w' => e = .returned (.tuple #[]) ∧ w.grownBy w' (some fb) ∧ Fd fb yr ca ex (moveV gr tk s) w' := by
  have HM := Lib.hid (fo_move fb n yr ca ex d gr tk s w hn hi m1 m2 m3 m4 h)
  clear h hi
  go_enter Tryz.func63, Tryz.ntmps63
  go_wp2_with fail
  refine (HM.out).mono ?_
  rintro e w1 ⟨rfl, hg, hd⟩
  go_wp2
  go_end0
  exact ⟨rfl, hg, hd⟩
end Go.Proofs.YtmngghglcgmkeaaGreatDoor.Lv

namespace Go.Proofs.YtmngghglcgmkeaaGreatDoor.Lv
open Go.RowKit Go.Sort Go.BigFrame

theorem Cal.ok_min {y m d : Int} (h1 : 1900 ≤ y) (h2 : y ≤ 2199) (h3 : 1 ≤ m) (h4 : m ≤ 12) (h5 : 1 ≤ d) : Cal.Ok y m (min d (Cal.dim y m)) := by
  have := Cal.dim_bd y m
  exact ⟨h1, h2, h3, h4, by omega, by omega⟩

set_option maxHeartbeats 1000000 in
theorem civ_AddMonths (y m dd d n : Int) (w : World) (ht : Tab w) (ho : Cal.Ok y m dd) (hd : Hid (Cal.num y m dd = d + 25567)) (h0 : 0 ≤ 12 * (y - 1900) + m - 1 + n) (h1 : 12 * (y - 1900) + m - 1 + n < 3600) :
    Calls Tryz.prog 97 #[.int .i64 d, .int .i64 n] w fun e w' =>
      e = .returned (.int .i64 (Cal.num (1900 + (12 * (y - 1900) + m - 1 + n) / 12) ((12 * (y - 1900) + m - 1 + n) % 12 + 1) (min dd (Cal.dim (1900 + (12 * (y - 1900) + m - 1 + n) / 12) ((12 * (y - 1900) + m - 1 + n) % 12 + 1))) - 25567)) ∧ Grows w w' := by
  have hb := ho.bd
  rw [hd.out] at hb
  have hin : decide (-25567 ≤ d ∧ d ≤ 84005) = true := by simp; omega
  have b1 := ho.y1
  have b2 := ho.y2
  have b3 := ho.m1
  have b4 := ho.m2
  have b5 := ho.d1
  have b6 := ho.d2
  have b7 := Cal.dim_bd y m
  obtain ⟨k, hk⟩ : ∃ k, 12 * (y - 1900) + m - 1 + n = k := ⟨_, rfl⟩
  rw [hk] at h0 h1 ⊢
  have ok2 := Lib.hid (Cal.ok_min (y := 1900 + k / 12) (m := k % 12 + 1) (by omega) (by omega) (by omega) (by omega) b5)
  have md := Lib.hid (mdV_ok (y := 1900 + k / 12) (m := k % 12 + 1) (by omega) (by omega) (by omega) (by omega))
  have K := Lib.hid hk
  have n1 : -4000 ≤ n := by omega
  have n2 : n ≤ 4000 := by omega
  have t1 : ¬ n < -(12 * (y - 1900) + m - 1) := by omega
  have t2 : ¬ 3600 - (12 * (y - 1900) + m - 1) ≤ n := by omega
  clear hk
  go_enter Tryz.func97, Tryz.ntmps97
  go_wp2_with fail
  refine (civ_in d _ (by omega)).mono ?_
  rintro e w1 ⟨rfl, rfl⟩
  rw [hin]
  go_wp2_with fail
  refine (civ_To y m dd d _ ht ho hd).mono ?_
  rintro e wb ⟨rfl, gb⟩
  have tb := ht.grows gb
  go_wp2
  obtain ⟨B, hB⟩ : ∃ B, wb.heap.size = B := ⟨_, rfl⟩
  obtain ⟨wa, hwa⟩ : ∃ x, wb.alloc (.cells #[.int .i64 y, .int .i64 m, .int .i64 dd] 141 (0, 0)) = x := ⟨_, rfl⟩
  have ga : Grows wb wa := hwa ▸ .of_alloc _ _
  have sa : B < wa.heap.size := hwa ▸ hB ▸ size_new _ _
  have a2 : wa.cell? ⟨B, 2, none⟩ = some (.int .i64 dd) := hwa ▸ hB ▸ new_cell _ _ _ _ rfl
  have ta := tb.grows ga
  rw [hwa, hB, K.out]
  clear hwa hB
  have c2 := cellN sa a2
  clear a2
  have OfH : ∀ W : World, Tab W → Calls Tryz.prog 69 #[.agg #[.int .i64 (1900 + k / 12), .int .i64 (k % 12 + 1), .int .i64 (if mdV (1900 + k / 12) (k % 12 + 1) < dd then mdV (1900 + k / 12) (k % 12 + 1) else dd)]] W fun e w' =>
      e = .returned (.tuple #[.int .i64 (Cal.num (1900 + k / 12) (k % 12 + 1) (min dd (Cal.dim (1900 + k / 12) (k % 12 + 1))) - 25567), .int .i64 0]) ∧ Grows W w' := fun W hW => by
    rw [md.out, show (if Cal.dim (1900 + k / 12) (k % 12 + 1) < dd then Cal.dim (1900 + k / 12) (k % 12 + 1) else dd) = min dd (Cal.dim (1900 + k / 12) (k % 12 + 1)) by split <;> omega]
    exact civ_Of _ _ _ W hW ok2.out
  have OFH := Lib.hid OfH
  clear OfH
  refine wp_region_quiet_grown (by kernel_rfl) (by kernel_rfl) ?_
  repeat (go_big_quiet_step (first | (refine grown_same (civ_MonthDays (1900 + k / 12) (k % 12 + 1) _ (ta.grows (.of_grow _ _ _)))) | (refine grown_any (OFH.out _ (ta.grows (.of_grow _ _ _))))))
  refine wpQuiet_nil ?_
  intro wd hw'
  obtain ⟨p, hw''⟩ := hw'
  have gd : Grows wa wd := ⟨p.n, p.os, hw''⟩
  clear hw'' p c2
  go_wp2
  all_goals (go_ret; exact ⟨rfl, (gb.trans ga).trans gd⟩)
/-- Behind a year's first day. -/
theorem civ_AddJan (y n : Int) (w : World) (ht : Tab w) (h1 : 1900 ≤ y) (h2 : y ≤ 2199) (h3 : 0 ≤ n) (h4 : n ≤ 11) :
    Calls Tryz.prog 97 #[.int .i64 (Cal.st y - 25567), .int .i64 n] w fun e w' => e = .returned (.int .i64 (Cal.st y + Cal.cum y (n + 1) - 25567)) ∧ Grows w w' := by
  refine (civ_AddMonths y 1 1 (Cal.st y - 25567) n w ht (Cal.ok_jan h1 h2) (Lib.hid (by rw [Cal.num_jan]; omega)) (by omega) (by omega)).mono ?_
  rintro e w' ⟨rfl, hg⟩
  refine ⟨ret_i ?_, hg⟩
  have e1 : 1900 + (12 * (y - 1900) + 1 - 1 + n) / 12 = y := by omega
  have e2 : (12 * (y - 1900) + 1 - 1 + n) % 12 = n := by omega
  rw [e1, e2, show min 1 (Cal.dim y (n + 1)) = 1 by have := Cal.dim_bd y (n + 1); omega]
  unfold Cal.num; omega
end Go.Proofs.YtmngghglcgmkeaaGreatDoor.Lv

namespace Go.Proofs.YtmngghglcgmkeaaGreatDoor.Lv
open Go.RowKit Go.Sort

/-- The cells of elements. -/
def rowOf {α : Type} (enc : α → List Value) (l : List α) : List Value := l.flatMap enc
section
variable {α : Type} {enc : α → List Value} {k : Nat}
theorem rowOf_append (l m : List α) : rowOf enc (l ++ m) = rowOf enc l ++ rowOf enc m := List.flatMap_append
theorem rowOf_one (x : α) : rowOf enc [x] = enc x := by simp [rowOf]
theorem rowOf_length (hk : ∀ x, (enc x).length = k) (l : List α) : (rowOf enc l).length = l.length * k := by
  induction l with
  | nil => simp [rowOf]
  | cons x l ih =>
    have : rowOf enc (x :: l) = enc x ++ rowOf enc l := rfl
    rw [this, List.length_append, ih, hk, List.length_cons, Nat.add_mul]; omega
theorem rowOf_get (hk : ∀ x, (enc x).length = k) : ∀ (l : List α) (i : Nat) (x : α), l[i]? = some x → ∀ (j : Nat) (u : Value), (enc x)[j]? = some u → (rowOf enc l)[i * k + j]? = some u := by
  intro l
  induction l with
  | nil => intro i x h; simp at h
  | cons y l ih =>
    intro i x h j u hu
    have e : rowOf enc (y :: l) = enc y ++ rowOf enc l := rfl
    have hj : j < k := by rw [← hk x]; exact (List.getElem?_eq_some_iff.1 hu).1
    cases i with
    | zero =>
      cases h
      rw [e, List.getElem?_append_left (by rw [hk]; omega), Nat.zero_mul, Nat.zero_add]; exact hu
    | succ i =>
      rw [List.getElem?_cons_succ] at h
      rw [e, List.getElem?_append_right (by rw [hk, Nat.add_mul]; omega), hk, Nat.add_mul, show i * k + 1 * k + j - k = i * k + j by omega]
      exact ih i x h j u hu
end

/-- A slice value that owns a row of l's elements. -/
def Own {α : Type} (enc : α → List Value) (k : Nat) (e : TypeId) (base : Nat) (v : Value) (l : List α) (w : World) : Prop := w.ownsRow base e k v l.length (rowOf enc l)
section
variable {α : Type} {enc : α → List Value} {k : Nat} {e : TypeId} {base : Nat} {v : Value} {l : List α} {w w' : World}
theorem Own.nil (w : World) : Own enc k e base (.slice none 0 0) [] w := World.ownsRow_nil w base e k
theorem Own.kept {r : Option Nat} (h : Own enc k e base v l w) (hg : w.grownBy w' r) (hr : v.ownBlock = none ∨ v.ownBlock ≠ r) : Own enc k e base v l w' := World.ownsRow.kept h hg hr
theorem Own.none_ (h : Own enc k e base v l w) (hg : w.grownBy w' none) : Own enc k e base v l w' := h.kept hg (by cases v.ownBlock <;> simp)
theorem Own.grows (h : Own enc k e base v l w) (hg : Grows w w') : Own enc k e base v l w' := h.none_ (hg.grownBy none)
theorem Own.alloc (h : Own enc k e base v l w) (o : Obj) : Own enc k e base v l (w.alloc o) := World.ownsRow.alloc h o
theorem Own.lt (h : Own enc k e base v l w) {b : Nat} (hb : v.ownBlock = some b) : base ≤ b ∧ b < w.heap.size := World.ownsRow.lt h b hb
theorem Own.far (h : Own enc k e base v l w) {b : Nat} (hb : b < base) : some b ≠ v.ownBlock := fun he => by have := (h.lt he.symm).1; omega
/-- It is a row of its own, if there is an element. -/
theorem Own.row (hk : ∀ x, (enc x).length = k) (h : Own enc k e base v l w) (hl : l ≠ []) : ∃ g cap, v = .slice (some ⟨g, 0, none⟩) l.length cap ∧ base ≤ g ∧ Rw enc k e g cap l w := by
  rcases h.2 with ⟨_, h0⟩ | ⟨g, cap, cur, hv, hb, hg, hn, _, hs, ht⟩
  · exact absurd (List.length_eq_zero_iff.1 h0) hl
  · refine ⟨g, cap, hv, hb, cur, hg, hs, hn, fun i x hx j u hu => ?_⟩
    have h1 := rowOf_get hk l i x hx j u hu
    have h2 : (cur.toList.take (l.length * k))[i * k + j]? = some u := by rw [ht]; exact h1
    rw [List.getElem?_take] at h2
    split at h2
    · simpa using h2
    · cases h2
theorem Own.ne_ {g : Nat} {t : TypeId} {cs : Array Value} (h : Own enc k e base v l w) (hg : Bk g t cs w) (hne : e ≠ t) : some g ≠ v.ownBlock := by
  rcases h.2 with ⟨rfl, _⟩ | ⟨g', cap, cur, rfl, _, hh, _⟩
  · simp [Value.ownBlock]
  · intro he
    have : g = g' := by simpa [Value.ownBlock] using he
    subst this
    exact Bk.ne_ (t := e) hh hg hne rfl
theorem Own.nilv (h : Own enc k e base v l w) (hv : v.ownBlock = none) : v = .slice none 0 0 := by
  rcases h.2 with ⟨rfl, _⟩ | ⟨g, cap, cur, rfl, _⟩
  · rfl
  · simp [Value.ownBlock] at hv
end

/-- One element more. -/
theorem wpList_append_row {α : Type} {enc : α → List Value} {k : Nat} {P : Program} {ops : Array Oper} {rest : List Oper} {o : Oper} {a : Act} {w : World} {Q : Exit → Act → World → Prop}
    (hk : ∀ x, (enc x).length = k) (h1 : ∀ x, ∀ u ∈ enc x, u.oneCell' = true) (hgd : o.guard = none) (s x : Operand) (t : TypeId)
    (ho : o.op = .call { callee := .builtin .append, args := #[s, x], argTypes := #[t, t] })
    (base : Nat) (e : TypeId) (z : Value) (bytes : Nat) (ht : P.underlying t = some (.slice e)) (hi : (P.info? e).map (fun i => (i.zero, i.size, i.bytes)) = some (some z, k, bytes)) (hzs : z.cells.size = k) (hsz : 0 < k)
    (v : Value) (l : List α) (y : α) (hs : a.eval s = v) (hown : Own enc k e base v l w)
    (b c : Nat) (hx : a.eval x = .slice (some ⟨b, 0, none⟩) 1 c) (hnews : ∀ j u, (enc y)[j]? = some u → w.cell? ⟨b, j, none⟩ = some u)
    (hn : l.length + 1 ≤ 1000000000) (hb : bytes ≤ 1000) (hbase : base ≤ w.heap.size)
    (h : ∀ v' w', Own enc k e base v' (l ++ [y]) w' → w.grownBy w' v.ownBlock → wpList P ops Q rest (a.put o.dst v') w') : wpList P ops Q (o :: rest) a w := by
  obtain ⟨i, hi1, hz, hsize, hby⟩ := info_parts hi
  refine wpList_append_own w hgd s x t ho base e i z k bytes ht hi1 hz hsize hby hzs hsz v l.length (rowOf enc l) hs hown ⟨b, 0, none⟩ 1 c (enc y) hx (by rw [hk]; omega) (fun j u hu => ?_) (h1 y) (by simp only [maxLen]; omega) ?_ hbase (fun v' w' h2 h3 _ => h v' w' ?_ h3)
  · have := hnews j u hu
    unfold Addr.add
    split
    · rename_i h0; subst h0; exact this
    · simpa using this
  · exact Nat.le_trans (Nat.mul_le_mul hn hb) (by omega)
  · unfold Own
    rw [List.length_append, rowOf_append, rowOf_one]; exact h2
end Go.Proofs.YtmngghglcgmkeaaGreatDoor.Lv

namespace Go.Proofs.YtmngghglcgmkeaaGreatDoor.Lv
open Go.RowKit Go.Sort

theorem _root_.Go.Proofs.YtmngghglcgmkeaaGreatDoor.Tab.below {a b : World} {B : Nat} (h : Tab a) (k : Below B a b) (hB : 0 < B) (hs : a.heap.size ≤ b.heap.size) : Tab b := ⟨Nat.lt_of_lt_of_le h.1 hs, fun i hi => (k.cell (p := ⟨0, i, none⟩) hB).trans (h.2 i hi)⟩
theorem _root_.Go.Proofs.YtmngghglcgmkeaaGreatDoor.Tab.grownBy {a b : World} {r : Option Nat} (h : Tab a) (k : a.grownBy b r) (hr : some 0 ≠ r) : Tab b := ⟨Nat.lt_of_lt_of_le h.1 k.size, fun i hi => (World.cell?_of_block (a := ⟨0, i, none⟩) (k.block _ h.1 hr)).trans (h.2 i hi)⟩
/-- What one year brings. -/
def yearEl (fb : Nat) (ex y : Int) : List El :=
  (Cal.st y - 25567, .func 96, #[.pointer (some ⟨fb, 0, none⟩)], #[]) ::
    (if 0 < ex ∧ ex < 12 then [(Cal.st y + Cal.cum y (ex + 1) - 25567, .func 98, #[.pointer (some ⟨fb, 0, none⟩)], #[])] else [])
/-- What the k years behind the plan's own bring. -/
def yearsEl (fb : Nat) (ex yr : Int) (k : Nat) : List El := (List.range k).flatMap fun (i : Nat) => yearEl fb ex (yr + 1 + (i : Int))
theorem yearsEl_succ (fb : Nat) (ex yr : Int) (k : Nat) : yearsEl fb ex yr (k + 1) = yearsEl fb ex yr k ++ yearEl fb ex (yr + 1 + (k : Int)) := by
  unfold yearsEl; rw [List.range_succ, List.flatMap_append]; simp
theorem yearsEl_len (fb : Nat) (ex yr : Int) (k : Nat) : (yearsEl fb ex yr k).length ≤ 2 * k := by
  induction k with
  | zero => simp [yearsEl]
  | succ k ih =>
    rw [yearsEl_succ, List.length_append]
    have : (yearEl fb ex (yr + 1 + (k : Int))).length ≤ 2 := by unfold yearEl; split <;> simp
    omega

theorem grownBelow {a b : World} {r : Option Nat} {B : Nat} (h : a.grownBy b r) (hr : ∀ k, r = some k → B ≤ k) (hB : B ≤ a.heap.size) : Below B a b :=
  ⟨h.os, h.tape, h.output, h.size, fun i hi => h.block i (Nat.lt_of_lt_of_le hi hB) (fun e => by have := hr i e.symm; omega)⟩
theorem belowTrans {a b c : World} {B : Nat} (h : Below B a b) (k : Below B b c) : Below B a c := ⟨k.os.trans h.os, k.tape.trans h.tape, k.output.trans h.output, Nat.le_trans h.size k.size, fun i hi => (k.block i hi).trans (h.block i hi)⟩
theorem belowMono {a b : World} {B C : Nat} (h : Below B a b) (hC : C ≤ B) : Below C a b := ⟨h.os, h.tape, h.output, h.size, fun i hi => h.block i (Nat.lt_of_lt_of_le hi hC)⟩
theorem deedInfo : (Tryz.prog.info? 133).map (fun i => (i.zero, i.size, i.bytes)) = some (some (.agg #[.int .i64 0, .nilFunc]), 2, 16) := by kernel_rfl
theorem enc_one (x : El) : ∀ u ∈ enc x, u.oneCell' = true := by
  intro u hu
  simp only [enc, List.mem_cons, List.not_mem_nil, or_false] at hu
  rcases hu with rfl | rfl <;> rfl
theorem encNews {w : World} (x : El) : ∀ (j : Nat) (u : Value), (enc x)[j]? = some u → (w.alloc (.cells #[.int .i64 x.1, .func x.2.1 x.2.2.1 x.2.2.2] 133)).cell? ⟨w.heap.size, j, none⟩ = some u := fun j u h => new_cell _ _ _ _ (by simpa [enc] using h)

set_option maxHeartbeats 1000000 in
theorem fo_deeds (fb : Nat) (yr ca ex : Int) (s : Fo) (w : World) (ht : Tab w) (h1 : 1900 ≤ yr) (h2 : yr ≤ 2199) (h3 : 0 ≤ ex) (h4 : ex ≤ 12) (h : Fd fb yr ca ex s w) :
    Calls Tryz.prog 62 #[.pointer (some ⟨fb, 0, none⟩)] w fun e w' => ∃ v, e = .returned v ∧ Own enc 2 133 w.heap.size v (yearsEl fb ex yr (2199 - yr).toNat) w' ∧ Below w.heap.size w w' := by
  have c4 : w.cell? ⟨fb, 4, none⟩ = some (.int .i64 yr) := h.cell 4
  have c6 : w.cell? ⟨fb, 6, none⟩ = some (.int .i64 ex) := h.cell 6
  have H := Lib.hid h
  clear h
  have hmf : ∀ (fn : Fn) (first cap : Array Value) (w : World), (Instr.makeFunc fn first cap).run Tryz.prog w = .ok (.func fn first cap) w := fun _ _ _ _ => rfl
  go_enter Tryz.func62, Tryz.ntmps62
  go_wp2
  go_loopw [3, 4] (fun v y wr => ∃ k : Nat, (k : Int) ≤ 2199 - yr ∧ y = .int .i64 (yr + 1 + (k : Int)) ∧ Own enc 2 133 w.heap.size v (yearsEl fb ex yr k) wr ∧ Below w.heap.size w wr) (fun _ y _ => (9999 - intOf y).toNat)
  case atStart => exact ⟨0, by omega, by go_num, Own.nil _, Below.refl _ _⟩
  case round =>
    obtain ⟨k, hk, rfl, hown, hb⟩ := hrel
    by_cases hlt : yr + 1 + (k : Int) ≤ 2199
    · have tr := ht.below hb ht.1 hb.size
      have c6r : wr.cell? ⟨fb, 6, none⟩ = some (.int .i64 ex) := (hb.cell (p := ⟨fb, 6, none⟩) H.out.lt).trans c6
      have hl := yearsEl_len fb ex yr k
      have HO := Lib.hid hown
      have HS := Lib.hid (yearsEl_succ fb ex yr k)
      have hbs := hb.size
      have HB := Lib.hid hb
      clear hown hb c6 c4
      go_wp2_with fail
      refine (first_of (yr + 1 + k) _ tr (by omega) (by omega)).mono ?_
      rintro e w1 ⟨rfl, hg1⟩
      have h1s := hg1.size
      have HX : w.heap.size ≤ w1.heap.size := by omega
      have HL : (yearsEl fb ex yr k).length + 1 ≤ 1000000000 := by omega
      have c6a := hg1.cell (Nat.lt_of_lt_of_le H.out.lt hbs) c6r
      clear c6r
      go_wp2_with ((at_builtin; refine wpList_append_row enc_len enc_one rfl _ _ 129 rfl w.heap.size 133 _ 16 Tryz.underlying129 deedInfo rfl (by decide) _ (yearsEl fb ex yr k) (Cal.st (yr + 1 + k) - 25567, .func 96, #[.pointer (some ⟨fb, 0, none⟩)], #[]) rfl ((HO.out.grows hg1).alloc _) w1.heap.size 1 rfl (encNews _) HL (by decide) (Nat.le_trans HX (Grows.of_alloc _ _).size) ?_))
      intro v2 w2 hown2 hgr2
      have hf3 := HO.out.far H.out.lt
      have c6b := World.cell?_of_block (a := ⟨fb, 6, none⟩) (hgr2.block fb (Nat.lt_of_lt_of_le H.out.lt (Nat.le_trans HX (Grows.of_alloc _ _).size)) hf3)
      rw [(Grows.of_alloc w1 _).cell (Nat.lt_of_lt_of_le H.out.lt HX) c6a] at c6b
      have hb2 : Below w.heap.size w w2 := belowTrans (belowTrans HB.out (belowMono hg1.below hbs)) (belowTrans (belowMono (Grows.of_alloc _ _).below HX) (grownBelow hgr2 (fun b hb => (HO.out.lt hb).1) (Nat.le_trans HX (Grows.of_alloc _ _).size)))
      have t2 := ht.below hb2 ht.1 hb2.size
      have HO2 := Lib.hid hown2
      have HB2 := Lib.hid hb2
      have HL2 : ((yearsEl fb ex yr k) ++ [(Cal.st (yr + 1 + k) - 25567, Fn.func 96, #[Value.pointer (some ⟨fb, 0, none⟩)], (#[] : Array Value))]).length + 1 ≤ 1000000000 := by rw [List.length_append]; simp; omega
      have hs2 := hb2.size
      clear hown2 hgr2 hf3 hb2 c6a
      by_cases hx : 0 < ex ∧ ex < 12
      · obtain ⟨x1, x2⟩ := hx
        have HY : Hid (yearEl fb ex (yr + 1 + k) = [(Cal.st (yr + 1 + k) - 25567, .func 96, #[.pointer (some ⟨fb, 0, none⟩)], #[]), (Cal.st (yr + 1 + k) + Cal.cum (yr + 1 + k) (ex + 1) - 25567, .func 98, #[.pointer (some ⟨fb, 0, none⟩)], #[])]) :=
          Lib.hid (by unfold yearEl; rw [if_pos ⟨x1, x2⟩])
        go_wp2_with fail
        refine (civ_AddJan (yr + 1 + k) ex _ t2 (by omega) (by omega) (by omega) (by omega)).mono ?_
        rintro e w3 ⟨rfl, hg3⟩
        have HX3 : w.heap.size ≤ w3.heap.size := Nat.le_trans hs2 hg3.size
        go_wp2_with ((at_builtin; refine wpList_append_row enc_len enc_one rfl _ _ 129 rfl w.heap.size 133 _ 16 Tryz.underlying129 deedInfo rfl (by decide) _ _ (Cal.st (yr + 1 + k) + Cal.cum (yr + 1 + k) (ex + 1) - 25567, .func 98, #[.pointer (some ⟨fb, 0, none⟩)], #[]) rfl ((HO2.out.grows hg3).alloc _) w3.heap.size 1 rfl (encNews _) HL2 (by decide) (Nat.le_trans HX3 (Grows.of_alloc _ _).size) ?_))
        intro v4 w4 hown4 hgr4
        have hb4 : Below w.heap.size w w4 := belowTrans (belowTrans HB2.out (belowMono hg3.below hs2)) (belowTrans (belowMono (Grows.of_alloc _ _).below HX3) (grownBelow hgr4 (fun b hb => (HO2.out.lt hb).1) (Nat.le_trans HX3 (Grows.of_alloc _ _).size)))
        have HO4 := Lib.hid hown4
        have HB4 := Lib.hid hb4
        clear hown4 hb4 hgr4
        go_wp2
        refine ⟨⟨k + 1, by omega, by go_num, ?_, HB4.out⟩, by simp [intOf]; omega⟩
        rw [HS.out, HY.out]
        exact HO4.out
      · have HY : Hid (yearEl fb ex (yr + 1 + k) = [(Cal.st (yr + 1 + k) - 25567, .func 96, #[.pointer (some ⟨fb, 0, none⟩)], #[])]) :=
          Lib.hid (by unfold yearEl; rw [if_neg hx])
        by_cases x1 : 0 < ex
        · have x2 : 12 ≤ ex := by omega
          clear hx
          go_wp2
          refine ⟨⟨k + 1, by omega, by go_num, ?_, HB2.out⟩, by simp [intOf]; omega⟩
          rw [HS.out, HY.out]
          exact HO2.out
        · clear hx
          go_wp2
          refine ⟨⟨k + 1, by omega, by go_num, ?_, HB2.out⟩, by simp [intOf]; omega⟩
          rw [HS.out, HY.out]
          exact HO2.out
    · have HK : Hid ((2199 - yr).toNat = k) := Lib.hid (by omega)
      have HO := Lib.hid hown
      have HB := Lib.hid hb
      clear hown hb
      go_wp2
      go_ret
      exact ⟨_, rfl, by rw [HK.out]; exact HO.out, HB.out⟩
end Go.Proofs.YtmngghglcgmkeaaGreatDoor.Lv

namespace Go.Proofs.YtmngghglcgmkeaaGreatDoor.Lv

/-- A move: its day, what is granted, what is taken. -/
abbrev Mv := Int × Int × Int
def encM (x : Mv) : List Value := [.int .i64 x.1, .int .i64 x.2.1, .int .i64 x.2.2]
theorem encM_len (x : Mv) : (encM x).length = 3 := rfl
/-- What a slice holds: element i's cells, of 'sz' cells each. -/
def Sl {α : Type} (enc : α → List Value) (sz : Nat) (w : World) (B : Nat) (A : Option Addr) (L : List α) : Prop :=
  L ≠ [] → ∃ b off, A = some ⟨b, off, none⟩ ∧ b < B ∧ ∀ i x, L[i]? = some x → ∀ j u, (enc x)[j]? = some u → w.cell? ⟨b, off + i * sz + j, none⟩ = some u
theorem Sl.keep {α : Type} {enc : α → List Value} {sz B : Nat} {w w' : World} {A : Option Addr} {L : List α} (h : Sl enc sz w B A L) (hk : ∀ b o, b < B → w'.cell? ⟨b, o, none⟩ = w.cell? ⟨b, o, none⟩) : Sl enc sz w' B A L := fun hl => by
  obtain ⟨b, off, e, hb, hc⟩ := h hl
  exact ⟨b, off, e, hb, fun i x hx j u hu => (hk _ _ hb).trans (hc i x hx j u hu)⟩
theorem Sl.more {α : Type} {enc : α → List Value} {sz B C : Nat} {w : World} {A : Option Addr} {L : List α} (h : Sl enc sz w B A L) (hk : B ≤ C) : Sl enc sz w C A L := fun hl => by
  obtain ⟨b, off, e, hb, hc⟩ := h hl
  exact ⟨b, off, e, by omega, hc⟩
theorem Sl.grows {α : Type} {enc : α → List Value} {sz B : Nat} {w w' : World} {A : Option Addr} {L : List α} (h : Sl enc sz w B A L) (hg : Grows w w') (hB : B ≤ w.heap.size) : Sl enc sz w' B A L := h.keep fun b o hb => hg.cells.1 b o (by omega)

def dayOf (l : List Mv) (i : Nat) : Int := (l.getD i (0, 0, 0)).1
/-- Is a day of no calendar, or ahead of the plan's? -/
def early (yr d : Int) : Prop := d < -25567 ∨ 84005 < d ∨ d < Cal.st yr - 25567
instance (yr d : Int) : Decidable (early yr d) := by unfold early; infer_instance
def unfit (x : Mv) : Prop := x.2.1 < 0 ∨ 1000000 < x.2.1 ∨ x.2.2 < 0 ∨ 1000000 < x.2.2
instance (x : Mv) : Decidable (unfit x) := by unfold unfit; infer_instance
/-- What is wrong with move i. -/
def badM (yr : Int) (l : List Mv) (i : Nat) : Int :=
  if early yr (dayOf l i) then 15 else if 0 < i ∧ dayOf l i < dayOf l (i - 1) then 8 else if unfit (l.getD i (0, 0, 0)) then 2 else 0
/-- The first error among the first n. -/
def firstM (yr : Int) (l : List Mv) (n : Nat) : Int := (((List.range n).map (badM yr l)).find? (· ≠ 0)).getD 0
def noPlan (yr ca ex : Int) : Prop := yr < 1900 ∨ 2199 < yr ∨ ca < 0 ∨ 1000000 < ca ∨ ex < 0 ∨ 12 < ex
instance (yr ca ex : Int) : Decidable (noPlan yr ca ex) := by unfold noPlan; infer_instance
def chkV (yr ca ex un : Int) (l : List Mv) : Int :=
  if noPlan yr ca ex then 2 else if un < -25567 ∨ 84005 < un then 15 else if 4096 < l.length then 5 else firstM yr l l.length
theorem firstM_of {yr : Int} {l : List Mv} {n : Nat} : ∀ k, k ≤ n → (∀ j, j < k → badM yr l j = 0) → (k < n → badM yr l k ≠ 0) → firstM yr l n = if k < n then badM yr l k else 0 := by
  intro k hk hz he
  unfold firstM
  have hsp : List.range n = List.range k ++ (List.range (n - k)).map (k + ·) := by
    rw [← List.range_add]; congr 1; omega
  rw [hsp, List.map_append, List.find?_append]
  have h1 : ((List.range k).map (badM yr l)).find? (· ≠ 0) = none := by
    rw [List.find?_eq_none]
    intro x hx
    obtain ⟨j, hj, rfl⟩ := List.mem_map.1 hx
    simp [hz j (List.mem_range.1 hj)]
  rw [h1, Option.none_or]
  by_cases hkn : k < n
  · rw [if_pos hkn]
    obtain ⟨m, hm⟩ : ∃ m, n - k = m + 1 := ⟨n - k - 1, by omega⟩
    rw [hm, List.range_succ_eq_map]
    simp [he hkn]
  · rw [if_neg hkn]
    have : n - k = 0 := by omega
    rw [this]
    rfl
/-- A plan and a day that are right, and few moves. -/
structure Plan (yr ca ex un : Int) (l : List Mv) : Prop where
  plan : ¬ noPlan yr ca ex
  day : ¬ (un < -25567 ∨ 84005 < un)
  few : ¬ 4096 < l.length
theorem chkM_bad {yr ca ex un e : Int} {l : List Mv} {k : Nat} (hp : Plan yr ca ex un l) (hz : ∀ j, j < k → badM yr l j = 0) (hk : k < l.length) (he : badM yr l k = e) (hne : e ≠ 0) : e = chkV yr ca ex un l := by
  unfold chkV
  rw [if_neg hp.plan, if_neg hp.day, if_neg hp.few, firstM_of k (by omega) hz (fun _ => by rw [he]; exact hne), if_pos hk, he]
theorem chkM_ok {yr ca ex un : Int} {l : List Mv} {k : Nat} (hp : Plan yr ca ex un l) (hz : ∀ j, j < k → badM yr l j = 0) (hk : k = l.length) : 0 = chkV yr ca ex un l := by
  subst hk
  unfold chkV
  rw [if_neg hp.plan, if_neg hp.day, if_neg hp.few, firstM_of l.length (Nat.le_refl _) hz (fun h => absurd h (by omega)), if_neg (by omega)]
theorem badM_more {yr : Int} {l : List Mv} {k : Nat} (hz : ∀ j, j < k → badM yr l j = 0) (h : badM yr l k = 0) : ∀ j, j < k + 1 → badM yr l j = 0 := fun j hj => by
  rcases Nat.lt_succ_iff_lt_or_eq.1 hj with h1 | rfl
  · exact hz j h1
  · exact h
theorem dayOf_at {l : List Mv} {i : Nat} {x : Mv} (h : l[i]? = some x) : dayOf l i = x.1 := by unfold dayOf; rw [List.getD, h]; rfl
theorem badM_early {yr : Int} {l : List Mv} {i : Nat} {x : Mv} (h : l[i]? = some x) (he : early yr x.1) : badM yr l i = 15 := by
  unfold badM; rw [dayOf_at h, if_pos he]
theorem badM_order {yr : Int} {l : List Mv} {i : Nat} {x y : Mv} (h : l[i]? = some x) (h' : l[i - 1]? = some y) (he : ¬ early yr x.1) (h0 : 0 < i) (hd : x.1 < y.1) : badM yr l i = 8 := by
  unfold badM; rw [dayOf_at h, dayOf_at h', if_neg he, if_pos ⟨h0, hd⟩]
theorem badM_unfit {yr : Int} {l : List Mv} {i : Nat} {x : Mv} (h : l[i]? = some x) (he : ¬ early yr x.1) (ho : ¬ (0 < i ∧ x.1 < dayOf l (i - 1))) (hu : unfit x) : badM yr l i = 2 := by
  unfold badM; rw [dayOf_at h, if_neg he, if_neg ho, if_pos (by rw [List.getD, h]; exact hu)]
theorem badM_fine {yr : Int} {l : List Mv} {i : Nat} {x : Mv} (h : l[i]? = some x) (he : ¬ early yr x.1) (ho : ¬ (0 < i ∧ x.1 < dayOf l (i - 1))) (hu : ¬ unfit x) : badM yr l i = 0 := by
  unfold badM; rw [dayOf_at h, if_neg he, if_neg ho, if_neg (by rw [List.getD, h]; exact hu)]
/-- What a right list is. -/
theorem badM_zero {yr : Int} {l : List Mv} {i : Nat} {x : Mv} (h : l[i]? = some x) (hz : badM yr l i = 0) : ¬ early yr x.1 ∧ ¬ unfit x ∧ (0 < i → dayOf l (i - 1) ≤ x.1) := by
  unfold badM at hz
  rw [dayOf_at h] at hz
  split at hz
  · omega
  · split at hz
    · omega
    · split at hz
      · omega
      · rename_i a b c
        rw [List.getD, h] at c
        exact ⟨a, c, fun h0 => by omega⟩
theorem chkV_zero {yr ca ex un : Int} {l : List Mv} (h : chkV yr ca ex un l = 0) : Plan yr ca ex un l ∧ ∀ j, j < l.length → badM yr l j = 0 := by
  unfold chkV at h
  split at h
  · omega
  · split at h
    · omega
    · split at h
      · omega
      · rename_i a b c
        refine ⟨⟨a, b, c⟩, fun j hj => ?_⟩
        have key : ∀ n : Nat, n ≤ l.length → ∀ j, j < n → badM yr l j = 0 := by
          intro n
          induction n with
          | zero => intro _ j hj; omega
          | succ n ih =>
            intro hn
            have hz := ih (by omega)
            by_cases hb : badM yr l n = 0
            · exact badM_more hz hb
            · rw [firstM_of n (by omega) hz (fun _ => hb), if_pos (by omega)] at h
              exact absurd h hb
        exact key l.length (Nat.le_refl _) j hj
end Go.Proofs.YtmngghglcgmkeaaGreatDoor.Lv

namespace Go.Proofs.YtmngghglcgmkeaaGreatDoor.Lv
open Go.RowKit Go.Sort Go.BigFrame

theorem lv_within (n top : Int) (w : World) : Calls Tryz.prog 95 #[.int .i64 n, .int .i64 top] w fun e w' => e = .returned (.bool (decide (0 ≤ n ∧ n ≤ top))) ∧ w = w' := by
  go_enter Tryz.func95, Tryz.ntmps95
  by_cases h1 : 0 ≤ n
  · go_wp2
    go_ret
    exact ⟨ret_b (by simp [h1]), rfl⟩
  · go_wp2
    go_ret
    exact ⟨ret_b (by simp; omega), rfl⟩

theorem wd_neg (d : Int) : (decide (wdV d < 0) = true ↔ (d < -25567 ∨ 84005 < d)) := by
  unfold wdV; rw [decide_eq_true_iff]; split <;> omega

set_option maxHeartbeats 1000000 in
theorem lv_check (yr ca ex un : Int) (l : List Mv) (A : Option Addr) (cap : Nat) (w : World) (hl : l.length ≤ 9223372036854775807) (hun : -9223372036854775808 ≤ un ∧ un ≤ 9223372036854775807) (hdy : ∀ x ∈ l, -9223372036854775808 ≤ x.1 ∧ x.1 ≤ 9223372036854775807)
    (ht : Tab w) (hs : Sl encM 3 w w.heap.size A l) :
    Calls Tryz.prog 61 #[.agg #[.int .i64 yr, .int .i64 ca, .int .i64 ex], .int .i64 un, .slice A l.length cap] w fun e w' => e = .returned (.int .i64 (chkV yr ca ex un l)) ∧ Grows w w' := by
  have HD := Lib.hid hdy
  clear hdy
  by_cases hp : noPlan yr ca ex
  · have L := Lib.hid (show chkV yr ca ex un l = 2 from if_pos hp)
    unfold noPlan at hp
    by_cases h1 : yr < 1900
    · go_enter Tryz.func61, Tryz.ntmps61
      go_wp2
      go_ret
      exact ⟨ret_i L.out.symm, .of_alloc _ _⟩
    by_cases h2 : 2199 < yr
    · go_enter Tryz.func61, Tryz.ntmps61
      go_wp2
      go_ret
      exact ⟨ret_i L.out.symm, .of_alloc _ _⟩
    by_cases h3 : 0 ≤ ca ∧ ca ≤ 1000000
    · have d3 : decide (0 ≤ ca ∧ ca ≤ 1000000) = true := decide_eq_true h3
      have d4 : decide (0 ≤ ex ∧ ex ≤ 12) = false := decide_eq_false (by omega)
      clear h3
      go_enter Tryz.func61, Tryz.ntmps61
      go_wp2_with fail
      refine (lv_within ca 1000000 _).mono ?_
      rintro e w1 ⟨rfl, rfl⟩
      rw [d3]
      go_wp2_with fail
      refine (lv_within ex 12 _).mono ?_
      rintro e w1 ⟨rfl, rfl⟩
      rw [d4]
      go_wp2
      go_ret
      exact ⟨ret_i L.out.symm, .of_alloc _ _⟩
    · have d3 : decide (0 ≤ ca ∧ ca ≤ 1000000) = false := decide_eq_false h3
      clear h3
      go_enter Tryz.func61, Tryz.ntmps61
      go_wp2_with fail
      refine (lv_within ca 1000000 _).mono ?_
      rintro e w1 ⟨rfl, rfl⟩
      rw [d3]
      go_wp2
      go_ret
      exact ⟨ret_i L.out.symm, .of_alloc _ _⟩
  have HP := Lib.hid hp
  unfold noPlan at hp
  have h1 : 1900 ≤ yr := by omega
  have h2 : yr ≤ 2199 := by omega
  have d3 : decide (0 ≤ ca ∧ ca ≤ 1000000) = true := decide_eq_true (by omega)
  have d4 : decide (0 ≤ ex ∧ ex ≤ 12) = true := decide_eq_true (by omega)
  clear hp
  have tg := ht.grows (.of_alloc w (.cells #[.int .i64 yr, .int .i64 ca, .int .i64 ex] 98))
  go_enter Tryz.func61, Tryz.ntmps61
  go_wp2_with fail
  refine (lv_within ca 1000000 _).mono ?_
  rintro e w1 ⟨rfl, rfl⟩
  rw [d3]
  go_wp2_with fail
  refine (lv_within ex 12 _).mono ?_
  rintro e w1 ⟨rfl, rfl⟩
  rw [d4]
  go_wp2_with fail
  refine (civ_Weekday un _ hun).mono ?_
  rintro e w1 ⟨rfl, rfl⟩
  by_cases hu : un < -25567 ∨ 84005 < un
  · have L := Lib.hid (show chkV yr ca ex un l = 15 by unfold chkV; rw [if_neg HP.out, if_pos hu])
    have d5 := (wd_neg un).2 hu
    have d6 : wdV un < 0 := of_decide_eq_true d5
    clear hu
    go_wp2
    go_ret
    exact ⟨ret_i L.out.symm, .of_alloc _ _⟩
  have d5 : ¬ wdV un < 0 := fun h => hu ((wd_neg un).1 (decide_eq_true h))
  by_cases h6 : 4096 < l.length
  · have L := Lib.hid (show chkV yr ca ex un l = 5 by unfold chkV; rw [if_neg HP.out, if_neg hu, if_pos h6])
    clear hu
    go_wp2
    go_ret
    exact ⟨ret_i L.out.symm, .of_alloc _ _⟩
  have PL := Lib.hid (show Plan yr ca ex un l from ⟨HP.out, hu, h6⟩)
  clear hu
  go_wp2
  obtain ⟨pb, hpb⟩ : ∃ B, w.heap.size = B := ⟨_, rfl⟩
  obtain ⟨w0, hw0⟩ : ∃ x, w.alloc (.cells #[.int .i64 yr, .int .i64 ca, .int .i64 ex] 98) = x := ⟨_, rfl⟩
  have g0 : Grows w w0 := hw0 ▸ .of_alloc _ _
  have s0 : pb < w0.heap.size := hw0 ▸ hpb ▸ size_new _ _
  have p0 : w0.cell? ⟨pb, 0, none⟩ = some (.int .i64 yr) := hw0 ▸ hpb ▸ new_cell _ _ _ _ rfl
  rw [hw0] at tg
  have hs0 := hs.grows g0 (Nat.le_refl _)
  rw [hpb] at hs0
  rw [hw0, hpb]
  clear hw0 hs hpb
  have HS := Lib.hid hs0
  clear hs0
  go_loopw [34] (fun iv wr => ∃ k : Nat, k ≤ l.length ∧ iv = .int .i64 k ∧ Hid (∀ j, j < k → badM yr l j = 0) ∧ Grows w0 wr) (fun iv _ => l.length - (intOf iv).toNat)
  case atStart => exact ⟨0, Nat.zero_le _, rfl, Lib.hid (fun _ h => absurd h (by omega)), .refl _⟩
  case round =>
    obtain ⟨k, hk, rfl, HZ, hg⟩ := hrel
    by_cases hlt : k < l.length
    · obtain ⟨b, off, rfl, hB, hc⟩ := HS.out (by intro h; simp [h] at hlt)
      obtain ⟨⟨d, gr, tk⟩, hx⟩ : ∃ x, l[k]? = some x := ⟨_, List.getElem?_eq_getElem hlt⟩
      have hd := HD.out _ (List.mem_of_getElem? hx)
      have C0 : wr.cell? ⟨b, off + k * 3, none⟩ = some (.int .i64 d) := hg.cell (by omega) (by simpa using hc k _ hx 0 _ rfl)
      have C1 : wr.cell? ⟨b, off + k * 3 + 1, none⟩ = some (.int .i64 gr) := hg.cell (by omega) (hc k _ hx 1 _ rfl)
      have C2 : wr.cell? ⟨b, off + k * 3 + 2, none⟩ = some (.int .i64 tk) := hg.cell (by omega) (hc k _ hx 2 _ rfl)
      have HX := Lib.hid hx
      have HC := Lib.hid hc
      have hgs := hg.size
      clear hx hc
      go_wp2_with fail
      refine (civ_Weekday d _ hd).mono ?_
      rintro e w1 ⟨rfl, rfl⟩
      by_cases he : d < -25567 ∨ 84005 < d
      · have d7 : wdV d < 0 := of_decide_eq_true ((wd_neg d).2 he)
        have L := Lib.hid (chkM_bad PL.out HZ.out hlt (badM_early HX.out (by unfold early; simp only; omega)) (by omega))
        clear he
        go_wp2
        go_ret
        exact ⟨ret_i L.out, (g0.trans hg).trans (.of_alloc _ _)⟩
      have d7 : ¬ wdV d < 0 := fun h => he ((wd_neg d).1 (decide_eq_true h))
      go_wp2
      obtain ⟨mb, hmb⟩ : ∃ B, wr.heap.size = B := ⟨_, rfl⟩
      obtain ⟨wa, hwa⟩ : ∃ x, wr.alloc (.cells #[.int .i64 d, .int .i64 gr, .int .i64 tk] 70) = x := ⟨_, rfl⟩
      have ga : Grows wr wa := hwa ▸ .of_alloc _ _
      have sa : mb < wa.heap.size := hwa ▸ hmb ▸ size_new _ _
      have m0 : wa.cell? ⟨mb, 0, none⟩ = some (.int .i64 d) := hwa ▸ hmb ▸ new_cell _ _ _ _ rfl
      have m1 : wa.cell? ⟨mb, 1, none⟩ = some (.int .i64 gr) := hwa ▸ hmb ▸ new_cell _ _ _ _ rfl
      have m2 : wa.cell? ⟨mb, 2, none⟩ = some (.int .i64 tk) := hwa ▸ hmb ▸ new_cell _ _ _ _ rfl
      have gg := hg.trans ga
      have p1 := gg.cell s0 p0
      have ta := tg.grows gg
      have spa : pb < wa.heap.size := Nat.lt_of_lt_of_le s0 gg.size
      rw [hwa, hmb]
      have M0 := Lib.hid m0
      have M1 := Lib.hid m1
      have M2 := Lib.hid m2
      have P1 := Lib.hid p1
      have c0 := cellN sa m0
      have c1 := cellN spa p1
      clear hwa hmb m0 m1 m2 p1 C0 C1 C2 ga
      refine wp_region_quiet_grown (by kernel_rfl) (by kernel_rfl) ?_
      repeat (go_big_quiet_step (refine grown_any (first_of yr _ (ta.grows (.of_grow _ _ _)) h1 h2)))
      refine wpQuiet_nil ?_
      intro wb hw'
      obtain ⟨p, hw''⟩ := hw'
      have gb : Grows wa wb := ⟨p.n, p.os, hw''⟩
      clear hw'' p c0 c1
      have hgb := gg.trans gb
      have m0 := gb.cell sa M0.out
      have m1 := gb.cell sa M1.out
      have m2 := gb.cell sa M2.out
      have sb : mb < wb.heap.size := Nat.lt_of_lt_of_le sa gb.size
      have M0 := Lib.hid m0
      have M1 := Lib.hid m1
      have M2 := Lib.hid m2
      clear m0 m1 m2 gb ta sa spa P1 gg
      by_cases he2 : d < Cal.st yr - 25567
      · have L := Lib.hid (chkM_bad PL.out HZ.out hlt (badM_early HX.out (by unfold early; simp only; omega)) (by omega))
        clear he
        go_wp2
        go_ret
        exact ⟨ret_i L.out, g0.trans hgb⟩
      have HE : Hid (¬ early yr d) := Lib.hid (by unfold early; omega)
      clear he
      by_cases hk0 : 0 < k
      · have q1 : decide (0 < k) = true := decide_eq_true hk0
        obtain ⟨⟨d', gr', tk'⟩, hy⟩ : ∃ x, l[k - 1]? = some x := ⟨_, List.getElem?_eq_getElem (by omega)⟩
        have cp : wb.cell? ⟨b, off + (k - 1) * 3, none⟩ = some (.int .i64 d') := hgb.cell (by omega) (by simpa using HC.out (k - 1) _ hy 0 _ rfl)
        have c0 := cellN sb M0.out
        have cq := cellN (show b < wb.heap.size by have := hgb.size; omega) cp
        have HY := Lib.hid hy
        have hk2 : (0 : Int) ≤ (k : Int) - 1 := by omega
        have hk3 : (k : Int) - 1 < (l.length : Int) := by omega
        have hk4 : ((k : Int) - 1).toNat = k - 1 := by omega
        have hk5 : IntKind.i64.wrap ((k : Int) - 1) = (k : Int) - 1 := IntWalk.i64_in _ (by omega)
        clear cp hy
        go_wp2_with fail
        refine wp_region_quiet_grown (by kernel_rfl) (by kernel_rfl) ?_
        repeat (go_big_quiet_step (fail))
        refine wpQuiet_nil ?_
        intro wc hw'
        obtain ⟨p, hw''⟩ := hw'
        have gc : Grows wb wc := ⟨p.n, p.os, hw''⟩
        clear hw'' p c0 cq
        have m1 := gc.cell sb M1.out
        have m2 := gc.cell sb M2.out
        have hgc := hgb.trans gc
        clear gc sb M0
        by_cases hdd : d < d'
        · have L := Lib.hid (chkM_bad PL.out HZ.out hlt (badM_order HX.out HY.out HE.out hk0 hdd) (by omega))
          go_wp2
          go_ret
          exact ⟨ret_i L.out, g0.trans hgc⟩
        have HO : Hid (¬ (0 < k ∧ d < dayOf l (k - 1))) := Lib.hid (by rw [dayOf_at HY.out]; omega)
        by_cases w1 : 0 ≤ gr ∧ gr ≤ 1000000
        · by_cases w2 : 0 ≤ tk ∧ tk ≤ 1000000
          · have e1 : decide (0 ≤ gr ∧ gr ≤ 1000000) = true := decide_eq_true w1
            have e2 : decide (0 ≤ tk ∧ tk ≤ 1000000) = true := decide_eq_true w2
            have BZ := Lib.hid (badM_more HZ.out (badM_fine HX.out HE.out HO.out (by unfold unfit; simp only; omega)))
            clear w1 w2
            go_wp2_with fail
            refine (lv_within gr 1000000 _).mono ?_
            rintro e w1 ⟨rfl, rfl⟩
            rw [e1]
            go_wp2_with fail
            refine (lv_within tk 1000000 _).mono ?_
            rintro e w1 ⟨rfl, rfl⟩
            rw [e2]
            go_wp2
            exact ⟨⟨k + 1, by omega, by go_num, BZ, hgc⟩, by simp [intOf]; omega⟩
          · have e1 : decide (0 ≤ gr ∧ gr ≤ 1000000) = true := decide_eq_true w1
            have e2 : decide (0 ≤ tk ∧ tk ≤ 1000000) = false := decide_eq_false w2
            have L := Lib.hid (chkM_bad PL.out HZ.out hlt (badM_unfit HX.out HE.out HO.out (by unfold unfit; simp only; omega)) (by omega))
            clear w1 w2
            go_wp2_with fail
            refine (lv_within gr 1000000 _).mono ?_
            rintro e w1 ⟨rfl, rfl⟩
            rw [e1]
            go_wp2_with fail
            refine (lv_within tk 1000000 _).mono ?_
            rintro e w1 ⟨rfl, rfl⟩
            rw [e2]
            go_wp2
            go_ret
            exact ⟨ret_i L.out, g0.trans hgc⟩
        · have e1 : decide (0 ≤ gr ∧ gr ≤ 1000000) = false := decide_eq_false w1
          have L := Lib.hid (chkM_bad PL.out HZ.out hlt (badM_unfit HX.out HE.out HO.out (by unfold unfit; simp only; omega)) (by omega))
          clear w1
          go_wp2_with fail
          refine (lv_within gr 1000000 _).mono ?_
          rintro e w1 ⟨rfl, rfl⟩
          rw [e1]
          go_wp2
          go_ret
          exact ⟨ret_i L.out, g0.trans hgc⟩
      · have q1 : decide (0 < k) = false := decide_eq_false hk0
        have c0 := cellN sb M0.out
        go_wp2_with fail
        refine wp_region_quiet_grown (by kernel_rfl) (by kernel_rfl) ?_
        repeat (go_big_quiet_step (fail))
        refine wpQuiet_nil ?_
        intro wc hw'
        obtain ⟨p, hw''⟩ := hw'
        have gc : Grows wb wc := ⟨p.n, p.os, hw''⟩
        clear hw'' p c0
        have m1 := gc.cell sb M1.out
        have m2 := gc.cell sb M2.out
        have hgc := hgb.trans gc
        clear gc sb M0
        have HO : Hid (¬ (0 < k ∧ d < dayOf l (k - 1))) := Lib.hid (by omega)
        by_cases w1 : 0 ≤ gr ∧ gr ≤ 1000000
        · by_cases w2 : 0 ≤ tk ∧ tk ≤ 1000000
          · have e1 : decide (0 ≤ gr ∧ gr ≤ 1000000) = true := decide_eq_true w1
            have e2 : decide (0 ≤ tk ∧ tk ≤ 1000000) = true := decide_eq_true w2
            have BZ := Lib.hid (badM_more HZ.out (badM_fine HX.out HE.out HO.out (by unfold unfit; simp only; omega)))
            clear w1 w2
            go_wp2_with fail
            refine (lv_within gr 1000000 _).mono ?_
            rintro e w1 ⟨rfl, rfl⟩
            rw [e1]
            go_wp2_with fail
            refine (lv_within tk 1000000 _).mono ?_
            rintro e w1 ⟨rfl, rfl⟩
            rw [e2]
            go_wp2
            exact ⟨⟨k + 1, by omega, by go_num, BZ, hgc⟩, by simp [intOf]; omega⟩
          · have e1 : decide (0 ≤ gr ∧ gr ≤ 1000000) = true := decide_eq_true w1
            have e2 : decide (0 ≤ tk ∧ tk ≤ 1000000) = false := decide_eq_false w2
            have L := Lib.hid (chkM_bad PL.out HZ.out hlt (badM_unfit HX.out HE.out HO.out (by unfold unfit; simp only; omega)) (by omega))
            clear w1 w2
            go_wp2_with fail
            refine (lv_within gr 1000000 _).mono ?_
            rintro e w1 ⟨rfl, rfl⟩
            rw [e1]
            go_wp2_with fail
            refine (lv_within tk 1000000 _).mono ?_
            rintro e w1 ⟨rfl, rfl⟩
            rw [e2]
            go_wp2
            go_ret
            exact ⟨ret_i L.out, g0.trans hgc⟩
        · have e1 : decide (0 ≤ gr ∧ gr ≤ 1000000) = false := decide_eq_false w1
          have L := Lib.hid (chkM_bad PL.out HZ.out hlt (badM_unfit HX.out HE.out HO.out (by unfold unfit; simp only; omega)) (by omega))
          clear w1
          go_wp2_with fail
          refine (lv_within gr 1000000 _).mono ?_
          rintro e w1 ⟨rfl, rfl⟩
          rw [e1]
          go_wp2
          go_ret
          exact ⟨ret_i L.out, g0.trans hgc⟩
    · have KL : Hid (k = l.length) := Lib.hid (by omega)
      go_wp2
      go_ret
      exact ⟨ret_i (chkM_ok PL.out HZ.out KL.out), g0.trans hg⟩
end Go.Proofs.YtmngghglcgmkeaaGreatDoor.Lv

namespace Go.Proofs.YtmngghglcgmkeaaGreatDoor.Lv

inductive Op where
  | turn
  | lose
  | move (gr tk : Int)
def Op.act (ca ex : Int) : Op → Fo → Fo
  | .turn, s => turnV ca ex s
  | .lose, s => loseV s
  | .move gr tk, s => moveV gr tk s
def Op.fine : Op → Prop
  | .turn => True
  | .lose => True
  | .move gr tk => 0 ≤ gr ∧ gr ≤ 1000000 ∧ 0 ≤ tk ∧ tk ≤ 1000000
theorem _root_.Go.Proofs.YtmngghglcgmkeaaGreatDoor.Inv.act {n : Nat} {s : Fo} {ca ex : Int} (h : Inv n s) (h0 : 0 ≤ ca) (o : Op) (hf : o.fine) : Inv (n + 1) (o.act ca ex s) := by
  cases o with
  | turn => exact (h.turn h0).more (by omega)
  | lose => exact h.lose.more (by omega)
  | move gr tk => exact h.move hf.1 hf.2.1 hf.2.2.1 hf.2.2.2

def yearOps (ex y : Int) : List (Int × Op) := (Cal.st y - 25567, .turn) :: (if 0 < ex ∧ ex < 12 then [(Cal.st y + Cal.cum y (ex + 1) - 25567, .lose)] else [])
def yearsOps (ex yr : Int) (k : Nat) : List (Int × Op) := (List.range k).flatMap fun (i : Nat) => yearOps ex (yr + 1 + (i : Int))
def moveOps (l : List Mv) : List (Int × Op) := l.map fun x => (x.1, .move x.2.1 x.2.2)
def ltO (a b : Int × Op) : Bool := decide (a.1 < b.1)
def allOps (ex yr : Int) (l : List Mv) : List (Int × Op) := ss ltO (yearsOps ex yr (2199 - yr).toNat ++ moveOps l)
def stepO (ca ex un : Int) (s : Fo) (x : Int × Op) : Fo := if x.1 ≤ un then x.2.act ca ex s else s
def runO (ca ex un : Int) (L : List (Int × Op)) (s : Fo) : Fo := L.foldl (stepO ca ex un) s
def fo0 : Fo := ⟨0, 0, 0, 0, 0, 0⟩
/-- What comes of moves up to a day, all but 'left'. -/
def foldF (yr ca ex un : Int) (l : List Mv) : Fo := runO ca ex un (allOps ex yr l) fo0
/-- The account: granted, taken, expired, left. -/
def foldV (yr ca ex un : Int) (l : List Mv) : Int × Int × Int × Int :=
  ((foldF yr ca ex un l).g, (foldF yr ca ex un l).t, (foldF yr ca ex un l).e, (foldF yr ca ex un l).fr + (foldF yr ca ex un l).cr)
theorem inv0 : Inv 0 fo0 := by constructor <;> simp [fo0]
theorem _root_.Go.Proofs.YtmngghglcgmkeaaGreatDoor.Inv.step {n : Nat} {s : Fo} {ca ex un : Int} (h : Inv n s) (h0 : 0 ≤ ca) (x : Int × Op) (hf : x.2.fine) : Inv (n + 1) (stepO ca ex un s x) := by
  unfold stepO
  split
  · exact h.act h0 _ hf
  · exact h.more (by omega)
theorem inv_run {ca ex un : Int} (h0 : 0 ≤ ca) : ∀ (L : List (Int × Op)) (n : Nat) (s : Fo), Inv n s → (∀ x ∈ L, x.2.fine) → Inv (n + L.length) (runO ca ex un L s) := by
  intro L
  induction L with
  | nil => intro n s h _; exact h
  | cons x L ih =>
    intro n s h hf
    have := ih (n + 1) (stepO ca ex un s x) (h.step h0 x (hf x (by simp))) (fun y hy => hf y (by simp [hy]))
    rw [List.length_cons, show n + (L.length + 1) = n + 1 + L.length by omega]
    exact this
theorem runO_snoc (ca ex un : Int) (L : List (Int × Op)) (x : Int × Op) (s : Fo) : runO ca ex un (L ++ [x]) s = stepO ca ex un (runO ca ex un L s) x := by simp [runO]

/-- The stable sort of what is mapped. -/
theorem mg_map {α β : Type} {lt : α → α → Bool} {lt' : β → β → Bool} (f : α → β) (h : ∀ x y, lt' (f x) (f y) = lt x y) : ∀ l r : List α, mg lt' (l.map f) (r.map f) = (mg lt l r).map f
  | [], r => by simp
  | a :: l, [] => by simp
  | a :: l, b :: r => by
    have h1 := mg_map f h (a :: l) r
    have h2 := mg_map f h l (b :: r)
    simp only [List.map_cons] at h1 h2 ⊢
    rw [mg_cons, mg_cons, h]
    split
    · rw [h1]; rfl
    · rw [h2]; rfl
termination_by l r => l.length + r.length
theorem ss_map {α β : Type} {lt : α → α → Bool} {lt' : β → β → Bool} (f : α → β) (h : ∀ x y, lt' (f x) (f y) = lt x y) : ∀ l : List α, ss lt' (l.map f) = (ss lt l).map f
  | [] => rfl
  | x :: l => by
    show mg lt' [f x] (ss lt' (l.map f)) = (mg lt [x] (ss lt l)).map f
    rw [ss_map f h l, ← mg_map f h]; rfl
theorem yearsOps_len (ex yr : Int) (k : Nat) : (yearsOps ex yr k).length ≤ 2 * k := by
  induction k with
  | zero => simp [yearsOps]
  | succ k ih =>
    have : yearsOps ex yr (k + 1) = yearsOps ex yr k ++ yearOps ex (yr + 1 + (k : Int)) := by unfold yearsOps; rw [List.range_succ, List.flatMap_append]; simp
    rw [this, List.length_append]
    have : (yearOps ex (yr + 1 + (k : Int))).length ≤ 2 := by unfold yearOps; split <;> simp
    omega
/-- A deed: its day, what it does, and where its move lies. -/
structure De where
  day : Int
  op : Op
  mb : Nat
def De.o (x : De) : Int × Op := (x.day, x.op)
def ltD (a b : De) : Bool := decide (a.day < b.day)
def yearDe (ex y : Int) : List De := (yearOps ex y).map fun x => ⟨x.1, x.2, 0⟩
def yearsDe (ex yr : Int) (k : Nat) : List De := (yearsOps ex yr k).map fun x => ⟨x.1, x.2, 0⟩
theorem yearsDe_o (ex yr : Int) (k : Nat) : (yearsDe ex yr k).map De.o = yearsOps ex yr k := by
  unfold yearsDe; rw [List.map_map]; exact List.map_id _
theorem allOps_of {ex yr : Int} {l : List Mv} {M : List De} (h : M.map De.o = moveOps l) : (ss ltD (yearsDe ex yr (2199 - yr).toNat ++ M)).map De.o = allOps ex yr l := by
  rw [← ss_map (lt := ltD) (lt' := ltO) De.o (fun x y => rfl), List.map_append, yearsDe_o, h]; rfl
theorem fine_years {ex yr : Int} {k : Nat} : ∀ x ∈ yearsDe ex yr k, x.op = .turn ∨ x.op = .lose := by
  intro x hx
  unfold yearsDe yearsOps at hx
  rw [List.mem_map] at hx
  obtain ⟨y, hy, rfl⟩ := hx
  rw [List.mem_flatMap] at hy
  obtain ⟨i, _, hi⟩ := hy
  unfold yearOps at hi
  rcases List.mem_cons.1 hi with rfl | hi
  · exact .inl rfl
  · split at hi
    · rw [List.mem_singleton] at hi; subst hi; exact .inr rfl
    · cases hi
end Go.Proofs.YtmngghglcgmkeaaGreatDoor.Lv

namespace Go.Proofs.YtmngghglcgmkeaaGreatDoor.Lv
open Go.RowKit Go.Sort Go.BigFrame

/-- A deed as the row holds it. -/
def elOf (fb fv : Nat) (x : De) : El := match x.op with
  | .turn => (x.day, .func 96, #[.pointer (some ⟨fb, 0, none⟩)], #[])
  | .lose => (x.day, .func 98, #[.pointer (some ⟨fb, 0, none⟩)], #[])
  | .move _ _ => (x.day, .func 63, #[], #[.pointer (some ⟨fv, 0, none⟩), .pointer (some ⟨x.mb, 0, none⟩)])
theorem elOf_day (fb fv : Nat) (x : De) : (elOf fb fv x).1 = x.day := by unfold elOf; split <;> rfl
theorem elOf_lt (fb fv : Nat) (x y : De) : lt (elOf fb fv x) (elOf fb fv y) = ltD x y := by unfold lt ltD; rw [elOf_day, elOf_day]
theorem yearsEl_of (fb fv : Nat) (ex yr : Int) (k : Nat) : yearsEl fb ex yr k = (yearsDe ex yr k).map (elOf fb fv) := by
  unfold yearsEl yearsDe yearsOps
  rw [List.map_map, List.map_flatMap]
  congr 1
  funext i
  unfold yearEl yearOps
  split <;> rfl
/-- A move's block, where a deed is one. -/
def Lies (x : De) (w : World) : Prop := match x.op with
  | .move gr tk => Bk x.mb 70 #[.int .i64 x.day, .int .i64 gr, .int .i64 tk] w
  | _ => True
theorem Lies.kept {x : De} {w w' : World} {r : Option Nat} (h : Lies x w) (hg : w.grownBy w' r) (hr : ∀ cs, Bk x.mb 70 cs w → some x.mb ≠ r) : Lies x w' := by
  unfold Lies at h ⊢
  split at h
  · exact h.grownBy hg (hr _ h)
  · trivial

set_option maxHeartbeats 1000000 in
theorem lv_Fold_no (yr ca ex un : Int) (l : List Mv) (A : Option Addr) (cap : Nat) (w : World) (hl : l.length ≤ 9223372036854775807) (hun : -9223372036854775808 ≤ un ∧ un ≤ 9223372036854775807) (hdy : ∀ x ∈ l, -9223372036854775808 ≤ x.1 ∧ x.1 ≤ 9223372036854775807)
    (ht : Tab w) (hs : Sl encM 3 w w.heap.size A l) (he : chkV yr ca ex un l ≠ 0) :
    Calls Tryz.prog 35 #[.agg #[.int .i64 yr, .int .i64 ca, .int .i64 ex], .int .i64 un, .slice A l.length cap] w fun e w' =>
      e = .returned (.tuple #[.agg #[.int .i64 0, .int .i64 0, .int .i64 0, .int .i64 0], .int .i64 (chkV yr ca ex un l)]) ∧ Below w.heap.size w w' := by
  have g0 : ∀ o o', Grows w ((w.alloc o).alloc o') := fun o o' => (Grows.of_alloc _ _).trans (.of_alloc _ _)
  have HC := Lib.hid (fun o o' => lv_check yr ca ex un l A cap ((w.alloc o).alloc o') hl hun hdy (ht.grows (g0 o o')) ((hs.grows (g0 o o') (Nat.le_refl _)).more (g0 o o').size))
  clear hs hdy
  have he1 : (chkV yr ca ex un l != 0) = true := by simpa using he
  generalize chkV yr ca ex un l = c at *
  clear he
  go_enter Tryz.func35, Tryz.ntmps35
  go_wp2_with fail
  refine (HC.out _ _).mono ?_
  rintro e w1 ⟨rfl, hg⟩
  have hR : Bk (w.heap.size + 1) 94 #[.int .i64 0, .int .i64 0, .int .i64 0, .int .i64 0] w1 := by
    have h := Bk.new (w.alloc (.cells #[.int .i64 yr, .int .i64 ca, .int .i64 ex] 98)) 94 #[.int .i64 0, .int .i64 0, .int .i64 0, .int .i64 0]
    have e : (w.alloc (.cells #[.int .i64 yr, .int .i64 ca, .int .i64 ex] 98)).heap.size = w.heap.size + 1 := by simp
    rw [e] at h
    exact h.grows hg
  have gw := (g0 _ _).trans hg
  obtain ⟨rb, hrb⟩ : ∃ x, w.heap.size + 1 = x := ⟨_, rfl⟩
  have hrs : w.heap.size ≤ rb := by omega
  rw [hrb] at hR ⊢
  have r0 : w1.cell? ⟨rb, 0, none⟩ = some (.int .i64 0) := hR.cell 0
  have r1 : w1.cell? ⟨rb, 1, none⟩ = some (.int .i64 0) := hR.cell 1
  have r2 : w1.cell? ⟨rb, 2, none⟩ = some (.int .i64 0) := hR.cell 2
  have r3 : w1.cell? ⟨rb, 3, none⟩ = some (.int .i64 0) := hR.cell 3
  have f0 : w1.frozen? ⟨rb, 0, none⟩ = false := hR.frozen 0
  have f1 : w1.frozen? ⟨rb, 1, none⟩ = false := hR.frozen 1
  have f2 : w1.frozen? ⟨rb, 2, none⟩ = false := hR.frozen 2
  have f3 : w1.frozen? ⟨rb, 3, none⟩ = false := hR.frozen 3
  have HR := Lib.hid hR
  clear hR hrb hg HC g0
  go_wp2
  have hz := (((HR.out.set_ 0 (.int .i64 0)).set_ 1 (.int .i64 0)).set_ 2 (.int .i64 0)).set_ 3 (.int .i64 0)
  have gz := ((((gw.setCell (p := ⟨rb, 0, none⟩) hrs (.int .i64 0)).setCell (p := ⟨rb, 1, none⟩) hrs (.int .i64 0)).setCell (p := ⟨rb, 2, none⟩) hrs (.int .i64 0)).setCell (p := ⟨rb, 3, none⟩) hrs (.int .i64 0)).below
  clear r0 r1 r2 r3 f0 f1 f2 f3 HR gw
  generalize (((w1.setCell ⟨rb, 0, none⟩ (.int .i64 0)).setCell ⟨rb, 1, none⟩ (.int .i64 0)).setCell ⟨rb, 2, none⟩ (.int .i64 0)).setCell ⟨rb, 3, none⟩ (.int .i64 0) = wz at *
  have z0 : wz.cell? ⟨rb, 0, none⟩ = some (.int .i64 0) := hz.cell 0
  have z1 : wz.cell? ⟨rb, 1, none⟩ = some (.int .i64 0) := hz.cell 1
  have z2 : wz.cell? ⟨rb, 2, none⟩ = some (.int .i64 0) := hz.cell 2
  have z3 : wz.cell? ⟨rb, 3, none⟩ = some (.int .i64 0) := hz.cell 3
  exact bodyPost_ret (v := .tuple #[.agg #[.int .i64 0, .int .i64 0, .int .i64 0, .int .i64 0], .int .i64 c]) (by simp [results, Tryz.results35, go_sem, z0, z1, z2, z3]) rfl ⟨rfl, gz⟩
end Go.Proofs.YtmngghglcgmkeaaGreatDoor.Lv

namespace Go.Proofs.YtmngghglcgmkeaaGreatDoor.Lv
open Go.RowKit Go.Sort Go.BigFrame

/-- The sort of a row of the call's own. -/
theorem sortOwn (B N : Nat) (v : Value) (L : List El) (w : World) (hN : L.length = N) (hn : N ≤ 1000000) (h : Own enc 2 133 B v L w) :
    ∃ A cap, v = .slice A N cap ∧ Calls Tryz.prog 65 #[.slice A N cap, .func (.func 66) #[] #[]] w fun e w' =>
      e = .returned (.tuple #[]) ∧ w.grownBy w' v.ownBlock ∧ Sl enc 2 w' w'.heap.size A (ss lt L) ∧ ∀ b t cs, Bk b t cs w → t ≠ 133 → some b ≠ v.ownBlock := by
  subst hN
  by_cases h0 : L = []
  · subst h0
    rcases h.2 with ⟨rfl, _⟩ | ⟨g, cap, cur, rfl, hb, hg, hn0, hcm, hcs, ht⟩
    · exact ⟨none, 0, rfl, (sortNil _ w).mono fun e w' hh => ⟨hh.1, hh.2 ▸ World.grownBy.refl _ _, fun hl => absurd rfl hl, fun b t cs _ _ => by simp [Value.ownBlock]⟩⟩
    · have hr : Row g cap [] w := ⟨cur, hg, hcs, by simp, fun i x hx => by simp at hx⟩
      exact ⟨some ⟨g, 0, none⟩, cap, rfl, (sortStable g cap [] w (by simp) hr).mono fun e w' hh => ⟨hh.1, hh.2.1, fun hl => absurd rfl hl, fun b t cs hb hne => h.ne_ hb (Ne.symm hne)⟩⟩
  · obtain ⟨g, cap, rfl, hb, hr⟩ := h.row enc_len h0
    exact ⟨some ⟨g, 0, none⟩, cap, rfl, (sortStable g cap L w hn hr).mono fun e w' hh => ⟨hh.1, hh.2.1, fun _ => ⟨g, 0, rfl, hh.2.2.lt, fun i x hx j u hu => by rw [Nat.zero_add]; exact hh.2.2.cell hx hu⟩, fun b t cs hb hne => h.ne_ hb (Ne.symm hne)⟩⟩

theorem lies_step {x : De} {a b c : World} {B : Nat} {v : Value} {L : List El} (h : Lies x a) (g : Grows a b) (ho : Own enc 2 133 B v L b) (k : b.grownBy c v.ownBlock) : Lies x c :=
  (h.kept (g.grownBy none) (fun _ _ => by simp)).kept k (fun _ hb => ho.ne_ hb (by decide))
theorem bk_step {b0 : Nat} {t : TypeId} {cs : Array Value} {a b c : World} {B : Nat} {v : Value} {L : List El} (h : Bk b0 t cs a) (g : Grows a b) (ho : Own enc 2 133 B v L b) (k : b.grownBy c v.ownBlock) (hne : 133 ≠ t) : Bk b0 t cs c :=
  (h.grows g).grownBy k (ho.ne_ (h.grows g) hne)
theorem moveOps_succ {l : List Mv} {k : Nat} {x : Mv} (h : l[k]? = some x) : moveOps (l.take (k + 1)) = moveOps (l.take k) ++ [(x.1, Op.move x.2.1 x.2.2)] := by
  unfold moveOps
  rw [List.take_add_one, h]
  simp

set_option maxHeartbeats 2000000 in
theorem lv_Fold_ok (yr ca ex un : Int) (l : List Mv) (A : Option Addr) (cap : Nat) (w : World) (hl : l.length ≤ 9223372036854775807) (hun : -9223372036854775808 ≤ un ∧ un ≤ 9223372036854775807) (hdy : ∀ x ∈ l, -9223372036854775808 ≤ x.1 ∧ x.1 ≤ 9223372036854775807)
    (ht : Tab w) (hs : Sl encM 3 w w.heap.size A l) (he : chkV yr ca ex un l = 0) :
    Calls Tryz.prog 35 #[.agg #[.int .i64 yr, .int .i64 ca, .int .i64 ex], .int .i64 un, .slice A l.length cap] w fun e w' =>
      e = .returned (.tuple #[.agg #[.int .i64 (foldV yr ca ex un l).1, .int .i64 (foldV yr ca ex un l).2.1, .int .i64 (foldV yr ca ex un l).2.2.1, .int .i64 (foldV yr ca ex un l).2.2.2], .int .i64 0]) ∧ Below w.heap.size w w' := by
  have g0 : ∀ o o', Grows w ((w.alloc o).alloc o') := fun o o' => (Grows.of_alloc _ _).trans (.of_alloc _ _)
  have HC := Lib.hid (fun o o' => lv_check yr ca ex un l A cap ((w.alloc o).alloc o') hl hun hdy (ht.grows (g0 o o')) ((hs.grows (g0 o o') (Nat.le_refl _)).more (g0 o o').size))
  rw [he] at HC
  obtain ⟨PL0, BZ0⟩ := chkV_zero he
  have PL := Lib.hid PL0
  have BZ := Lib.hid BZ0
  have np := PL0.plan
  unfold noPlan at np
  have n1 : 1900 ≤ yr := by omega
  have n2 : yr ≤ 2199 := by omega
  have n3 : 0 ≤ ca := by omega
  have n4 : ca ≤ 1000000 := by omega
  have n5 : 0 ≤ ex := by omega
  have n6 : ex ≤ 12 := by omega
  have n7 : l.length ≤ 4096 := by have := PL0.few; omega
  have HS := Lib.hid hs
  have hmf : ∀ (fn : Fn) (first cap : Array Value) (w : World), (Instr.makeFunc fn first cap).run Tryz.prog w = .ok (.func fn first cap) w := fun _ _ _ _ => rfl
  clear hs hdy he PL0 BZ0 np
  go_enter Tryz.func35, Tryz.ntmps35
  go_wp2_with fail
  refine (HC.out _ _).mono ?_
  rintro e w1 ⟨rfl, hg⟩
  have hR : Bk (w.heap.size + 1) 94 #[.int .i64 0, .int .i64 0, .int .i64 0, .int .i64 0] w1 := by
    have h := Bk.new (w.alloc (.cells #[.int .i64 yr, .int .i64 ca, .int .i64 ex] 98)) 94 #[.int .i64 0, .int .i64 0, .int .i64 0, .int .i64 0]
    have e : (w.alloc (.cells #[.int .i64 yr, .int .i64 ca, .int .i64 ex] 98)).heap.size = w.heap.size + 1 := by simp
    rw [e] at h
    exact h.grows hg
  have hP : Bk w.heap.size 98 #[.int .i64 yr, .int .i64 ca, .int .i64 ex] w1 := ((Bk.new w 98 #[.int .i64 yr, .int .i64 ca, .int .i64 ex]).grows (.of_alloc _ _)).grows hg
  have gw := (g0 _ _).trans hg
  obtain ⟨pb, hpb⟩ : ∃ x, w.heap.size = x := ⟨_, rfl⟩
  obtain ⟨rb, hrb⟩ : ∃ x, pb + 1 = x := ⟨_, rfl⟩
  have hrs : w.heap.size ≤ rb := by omega
  rw [hpb] at hP hR ⊢
  rw [hrb] at hR ⊢
  have p0 : w1.cell? ⟨pb, 0, none⟩ = some (.int .i64 yr) := hP.cell 0
  have p1 : w1.cell? ⟨pb, 1, none⟩ = some (.int .i64 ca) := hP.cell 1
  have p2 : w1.cell? ⟨pb, 2, none⟩ = some (.int .i64 ex) := hP.cell 2
  have HR := Lib.hid hR
  have HB0 := Lib.hid hpb
  clear hR hrb hg HC g0 hP hpb
  go_wp2_with fail
  obtain ⟨w2, hw2⟩ : ∃ x, (w1.alloc (.cells (foC yr ca ex fo0) 128)).alloc (.cells #[.pointer (some ⟨w1.heap.size, 0, none⟩)] 126) = x := ⟨_, rfl⟩
  have hz1 : (w1.alloc (.cells (foC yr ca ex fo0) 128)).heap.size = w1.heap.size + 1 := by simp
  have hV : Bk (w1.heap.size + 1) 126 #[.pointer (some ⟨w1.heap.size, 0, none⟩)] w2 := by
    have h := Bk.new (w1.alloc (.cells (foC yr ca ex fo0) 128)) 126 #[.pointer (some ⟨w1.heap.size, 0, none⟩)]
    rw [hz1] at h
    exact hw2 ▸ h
  have hF : Fd w1.heap.size yr ca ex fo0 w2 := hw2 ▸ (Bk.new w1 _ _).grows (.of_alloc _ _)
  have g2 : Grows w1 w2 := hw2 ▸ (Grows.of_alloc _ _).trans (.of_alloc _ _)
  have gw2 := gw.trans g2
  have hR2 := HR.out.grows g2
  change Calls _ _ _ ((w1.alloc (.cells (foC yr ca ex fo0) 128)).alloc (.cells #[.pointer (some ⟨w1.heap.size, 0, none⟩)] 126)) _
  rw [hw2]
  obtain ⟨fb, hfb⟩ : ∃ x, w1.heap.size = x := ⟨_, rfl⟩
  obtain ⟨fv, hfv⟩ : ∃ x, fb + 1 = x := ⟨_, rfl⟩
  rw [hfb] at hV hF ⊢
  rw [hfv] at hV ⊢
  have HR2 := Lib.hid hR2
  have HV2 := Lib.hid hV
  have HF2 := Lib.hid hF
  have HS2 := Lib.hid (HS.out.grows gw2 (Nat.le_refl _))
  have T2 := ht.grows gw2
  have z2 := gw2.size
  have GW2 := Lib.hid gw2.below
  have HLE : Hid (w.heap.size ≤ rb ∧ w.heap.size ≤ fb) := Lib.hid ⟨hrs, hfb ▸ gw.size⟩
  clear hw2 hz1 hV hF g2 gw2 hR2 hfb hfv gw p0 p1 p2 HR HS ht HB0 hrs
  refine (fo_deeds fb yr ca ex fo0 w2 T2 n1 n2 n5 n6 HF2.out).mono ?_
  rintro e w3 ⟨v3, rfl, hown, hb3⟩
  have hown3 : Own enc 2 133 w2.heap.size v3 ((yearsDe ex yr (2199 - yr).toNat ++ []).map (elOf fb fv)) w3 := by
    rw [List.append_nil, ← yearsEl_of]; exact hown
  clear hown
  have HO3 := Lib.hid hown3
  have HB3 := Lib.hid hb3
  clear hown3 hb3
  have hyl : (yearsDe ex yr (2199 - yr).toNat).length ≤ 600 := by
    unfold yearsDe; rw [List.length_map]; have := yearsOps_len ex yr (2199 - yr).toNat; omega
  generalize hY : yearsDe ex yr (2199 - yr).toNat = Y at *
  have HY := Lib.hid hY
  clear hY
  go_wp2
  go_loopw [10, 30] (fun v iv wr => ∃ (k : Nat) (M : List De), k ≤ l.length ∧ iv = .int .i64 k ∧ Hid (M.map De.o = moveOps (l.take k)) ∧ Hid (Own enc 2 133 w2.heap.size v ((Y ++ M).map (elOf fb fv)) wr) ∧ Hid (Below w2.heap.size w2 wr) ∧ Hid (∀ x ∈ M, Lies x wr)) (fun _ iv _ => l.length - (intOf iv).toNat)
  case atStart => exact ⟨0, [], Nat.zero_le _, rfl, Lib.hid rfl, HO3, HB3, Lib.hid (fun _ h => by cases h)⟩
  case round =>
    obtain ⟨k, M, hk, rfl, HM, HO, HB, HL⟩ := hrel
    by_cases hlt : k < l.length
    · obtain ⟨b, off, rfl, hB, hc⟩ := HS2.out (by intro h; simp [h] at hlt)
      obtain ⟨⟨d, gr, tk⟩, hx⟩ : ∃ x, l[k]? = some x := ⟨_, List.getElem?_eq_getElem hlt⟩
      have C0 : wr.cell? ⟨b, off + k * 3, none⟩ = some (.int .i64 d) := (HB.out.cell (p := ⟨b, _, none⟩) (Nat.lt_of_lt_of_le hB z2)).trans (by simpa using hc k _ hx 0 _ rfl)
      have C1 : wr.cell? ⟨b, off + k * 3 + 1, none⟩ = some (.int .i64 gr) := (HB.out.cell (p := ⟨b, _, none⟩) (Nat.lt_of_lt_of_le hB z2)).trans (hc k _ hx 1 _ rfl)
      have C2 : wr.cell? ⟨b, off + k * 3 + 2, none⟩ = some (.int .i64 tk) := (HB.out.cell (p := ⟨b, _, none⟩) (Nat.lt_of_lt_of_le hB z2)).trans (hc k _ hx 2 _ rfl)
      have HX := Lib.hid hx
      clear hx hc
      have hML : M.length = k := by
        have := congrArg List.length HM.out
        rw [List.length_map] at this
        rw [this]; unfold moveOps; rw [List.length_map, List.length_take]; omega
      have HLn : ((Y ++ M).map (elOf fb fv)).length + 1 ≤ 1000000000 := by rw [List.length_map, List.length_append]; omega
      clear hML
      go_upto_region 9 with fail
      obtain ⟨wa, hwa⟩ : ∃ x, wr.alloc (.cells #[.int .i64 d, .int .i64 gr, .int .i64 tk] 70) = x := ⟨_, rfl⟩
      obtain ⟨mb, hmb⟩ : ∃ x, wr.heap.size = x := ⟨_, rfl⟩
      have hMb : Bk mb 70 #[.int .i64 d, .int .i64 gr, .int .i64 tk] wa := hmb ▸ hwa ▸ Bk.new wr _ _
      have ga : Grows wr wa := hwa ▸ .of_alloc _ _
      rw [hwa, hmb]
      clear hwa hmb C0 C1 C2
      have m0 : wa.cell? ⟨mb, 0, none⟩ = some (.int .i64 d) := hMb.cell 0
      have HX3 : w2.heap.size ≤ wa.heap.size := Nat.le_trans HB.out.size ga.size
      have HMb := Lib.hid hMb
      clear hMb
      go_wp2_with ((at_builtin; refine wpList_append_row enc_len enc_one rfl _ _ 129 rfl w2.heap.size 133 _ 16 Tryz.underlying129 deedInfo rfl (by decide) _ _ (elOf fb fv ⟨d, .move gr tk, mb⟩) rfl ((HO.out.grows ga).alloc _) wa.heap.size 1 rfl (encNews _) HLn (by decide) (Nat.le_trans HX3 (Grows.of_alloc _ _).size) ?_))
      intro v4 w4 hown4 hgr4
      have HL4 := Lib.hid (fun x (hx : x ∈ M) => lies_step (HL.out x hx) (ga.trans (.of_alloc wa _)) ((HO.out.grows ga).alloc _) hgr4)
      have HX4 := Lib.hid (bk_step HMb.out (.of_alloc wa _) ((HO.out.grows ga).alloc _) hgr4 (by decide))
      have HB4 := Lib.hid (belowTrans (belowTrans HB.out (belowMono ga.below HB.out.size)) (belowTrans (belowMono (Grows.of_alloc wa _).below HX3) (grownBelow hgr4 (fun b hb => (HO.out.lt hb).1) (Nat.le_trans HX3 (Grows.of_alloc _ _).size))))
      have HO4 : Hid (Own enc 2 133 w2.heap.size v4 ((Y ++ (M ++ [(⟨d, .move gr tk, mb⟩ : De)])).map (elOf fb fv)) w4) := Lib.hid (by simpa using hown4)
      have HM4 : Hid ((M ++ [(⟨d, .move gr tk, mb⟩ : De)]).map De.o = moveOps (l.take (k + 1))) := Lib.hid (by rw [moveOps_succ HX.out, List.map_append, HM.out]; rfl)
      have HLL : Hid (∀ x ∈ M ++ [(⟨d, .move gr tk, mb⟩ : De)], Lies x w4) := Lib.hid (fun x hx => by
        rcases List.mem_append.1 hx with hx | hx
        · exact HL4.out x hx
        · rw [List.mem_singleton.1 hx]; exact HX4.out)
      clear hown4 hgr4 HL4 HX4 ga m0
      go_wp2
      exact ⟨⟨k + 1, _, by omega, by go_num, HM4, HO4, HB4, HLL⟩, by simp [intOf]; omega⟩
    · have hkl : k = l.length := by omega
      subst hkl
      have HM5 : Hid (M.map De.o = moveOps l) := Lib.hid (by have := HM.out; rwa [List.take_length] at this)
      have hML : M.length = l.length := by
        have := congrArg List.length HM5.out
        rw [List.length_map] at this
        rw [this]; unfold moveOps; rw [List.length_map]
      obtain ⟨N, hN⟩ : ∃ N, ((Y ++ M).map (elOf fb fv)).length = N := ⟨_, rfl⟩
      have hNl : N ≤ 5000 := by rw [← hN, List.length_map, List.length_append]; omega
      obtain ⟨A5, cap5, rfl, hso⟩ := sortOwn w2.heap.size N _ _ wr hN (by omega) HO.out
      have hob : ∀ b, (Value.slice A5 N cap5).ownBlock = some b → w2.heap.size ≤ b := fun b hb => (HO.out.lt hb).1
      have HOB := Lib.hid hob
      have HSO := Lib.hid hso
      have HSD : Hid (ss lt ((Y ++ M).map (elOf fb fv)) = (ss ltD (Y ++ M)).map (elOf fb fv)) := Lib.hid (ss_map (elOf fb fv) (elOf_lt fb fv) _)
      have HN : Hid ((ss ltD (Y ++ M)).length = N) := Lib.hid (by rw [← hN, List.length_map, ss_length])
      clear hso hob hML hN
      go_wp2_with fail
      refine (HSO.out).mono ?_
      rintro e w5 ⟨rfl, hg5, hs5, hne5⟩
      rw [HSD.out] at hs5
      have hb5 : Below w2.heap.size w2 w5 := belowTrans HB.out (grownBelow hg5 HOB.out HB.out.size)
      have HFr : Fd fb yr ca ex fo0 wr := (HB.out.block fb HF2.out.lt).trans HF2.out
      have hnf := hne5 fb _ _ HFr (by decide)
      have HF5 := Lib.hid (HFr.grownBy hg5 hnf)
      clear HFr
      have HV5 : Hid (Bk fv 126 #[.pointer (some ⟨fb, 0, none⟩)] w5) := Lib.hid ((hb5.block fv HV2.out.lt).trans HV2.out)
      have HR5 : Hid (Bk rb 94 #[.int .i64 0, .int .i64 0, .int .i64 0, .int .i64 0] w5) := Lib.hid ((hb5.block rb HR2.out.lt).trans HR2.out)
      have HL5 : Hid (∀ x ∈ ss ltD (Y ++ M), Lies x w5) := Lib.hid (fun x hx => by
        have hx := ((ss_perm (lt := ltD) (Y ++ M)).mem_iff).1 hx
        rcases List.mem_append.1 hx with hx | hx
        · have hY := HY.out ▸ hx
          rcases fine_years x hY with h | h <;> (unfold Lies; rw [h]; trivial)
        · exact (HL.out x hx).kept hg5 (fun cs hb => hne5 _ _ cs hb (by decide)))
      have HS5 := Lib.hid hs5
      have HB5 := Lib.hid hb5
      have HNF := Lib.hid hnf
      have HOR := Lib.hid (allOps_of (ex := ex) (yr := yr) HM5.out)
      rw [HY.out] at HOR
      have HFI : Hid (∀ x ∈ ss ltD (Y ++ M), x.op.fine) := Lib.hid (fun x hx => by
        have hx := ((ss_perm (lt := ltD) (Y ++ M)).mem_iff).1 hx
        rcases List.mem_append.1 hx with hx | hx
        · have hY := HY.out ▸ hx
          rcases fine_years x hY with h | h <;> (rw [h]; trivial)
        · have h1 : x.o ∈ moveOps l := HM5.out ▸ List.mem_map_of_mem hx
          unfold moveOps at h1
          obtain ⟨y, hy, he⟩ := List.mem_map.1 h1
          obtain ⟨i, hi, hiy⟩ := List.mem_iff_getElem.1 hy
          have h2 := (badM_zero (yr := yr) (l := l) (i := i) (x := y) (by rw [List.getElem?_eq_getElem hi, hiy]) (BZ.out i hi)).2.1
          unfold unfit at h2
          have h3 : x.op = .move y.2.1 y.2.2 := (congrArg Prod.snd he).symm
          rw [h3]
          exact ⟨by omega, by omega, by omega, by omega⟩)
      clear hnf hne5 hg5 hs5 hb5 HM HO HB HL HSO HSD HF2 HV2 HR2 HS2 HO3 HB3 HM5 HOB
      generalize hsd : ss ltD (Y ++ M) = SD at *
      clear hsd
      obtain ⟨wo, rfl⟩ : ∃ wo : World, wo = wr := ⟨_, rfl⟩
      go_wp2
      go_loopw [46] (fun iv wx => ∃ k : Nat, k ≤ N ∧ iv = .int .i64 k ∧ Hid (Fd fb yr ca ex (runO ca ex un ((SD.map De.o).take k) fo0) wx) ∧ Hid (w5.grownBy wx (some fb))) (fun iv _ => N - (intOf iv).toNat)
      case atStart => exact ⟨0, Nat.zero_le _, rfl, HF5, Lib.hid (World.grownBy.refl _ _)⟩
      case round =>
        obtain ⟨k, hk, rfl, HFk, HGk⟩ := hrel
        by_cases hlt : k < N
        · obtain ⟨x, hx⟩ : ∃ x, SD[k]? = some x := ⟨_, List.getElem?_eq_getElem (by rw [HN.out]; exact hlt)⟩
          have hxm := List.mem_of_getElem? hx
          have hfi := HFI.out x hxm
          have hli := HL5.out x hxm
          have hxe : (SD.map (elOf fb fv))[k]? = some (elOf fb fv x) := by rw [List.getElem?_map, hx]; rfl
          obtain ⟨g, off, rfl, hgl, hc⟩ := HS5.out (by intro h0; rw [h0] at hxe; simp at hxe)
          have hgf : some g ≠ some fb := fun h0 => HNF.out h0.symm
          have C0 : wr.cell? ⟨g, off + k * 2, none⟩ = some (.int .i64 x.day) := (World.cell?_of_block (a := ⟨g, _, none⟩) (HGk.out.block g hgl hgf)).trans (by rw [← elOf_day fb fv x]; exact hc k _ hxe 0 _ rfl)
          have C1 := (World.cell?_of_block (a := ⟨g, off + k * 2 + 1, none⟩) (HGk.out.block g hgl hgf)).trans (hc k _ hxe 1 _ rfl)
          have HTK : Hid (runO ca ex un ((SD.map De.o).take (k + 1)) fo0 = stepO ca ex un (runO ca ex un ((SD.map De.o).take k) fo0) x.o) := Lib.hid (by
            rw [List.take_add_one, List.getElem?_map, hx]; exact runO_snoc _ _ _ _ _ _)
          have HIN : Hid (Inv k (runO ca ex un ((SD.map De.o).take k) fo0)) := Lib.hid (by
            have h1 := inv_run (ca := ca) (ex := ex) (un := un) n3 ((SD.map De.o).take k) 0 fo0 inv0 (fun y hy => by
              obtain ⟨z, hz, rfl⟩ := List.mem_map.1 (List.mem_of_mem_take hy)
              exact HFI.out z hz)
            have h2 : ((SD.map De.o).take k).length = k := by rw [List.length_take, List.length_map, HN.out]; omega
            rw [h2, Nat.zero_add] at h1
            exact h1)
          generalize runO ca ex un ((SD.map De.o).take k) fo0 = s at *
          obtain ⟨day, op, mb⟩ := x
          have HX := Lib.hid hx
          clear hx hxm hxe hc hgf
          by_cases hd : day ≤ un
          · have HST : Hid (stepO ca ex un s (De.o ⟨day, op, mb⟩) = op.act ca ex s) := Lib.hid (if_pos hd)
            cases op with
            | turn =>
              have C2 : wr.cell? ⟨g, off + k * 2 + 1, none⟩ = some (.func (.func 96) #[.pointer (some ⟨fb, 0, none⟩)] #[]) := C1
              have st := store_func (P := Tryz.prog) (.func 96) #[.pointer (some ⟨fb, 0, none⟩)] #[]
              clear C1 hfi hli
              go_wp2_with fail
              refine (fo_turn fb k yr ca ex s _ (by omega) HIN.out n3 n4 (by exact HFk.out.grows (.of_alloc _ _))).mono ?_
              rintro e w6 ⟨rfl, hg6, hf6⟩
              have HF6 := Lib.hid hf6
              have HG6 := Lib.hid (gTrans (gTrans HGk.out ((Grows.of_alloc _ _).grownBy _)) hg6)
              clear hf6 hg6
              go_wp2
              exact ⟨⟨k + 1, by omega, by go_num, Lib.hid (by rw [HTK.out, HST.out]; exact HF6.out), HG6⟩, by simp [intOf]; omega⟩
            | lose =>
              have C2 : wr.cell? ⟨g, off + k * 2 + 1, none⟩ = some (.func (.func 98) #[.pointer (some ⟨fb, 0, none⟩)] #[]) := C1
              have st := store_func (P := Tryz.prog) (.func 98) #[.pointer (some ⟨fb, 0, none⟩)] #[]
              clear C1 hfi hli
              go_wp2_with fail
              refine (fo_lose fb k yr ca ex s _ (by omega) HIN.out (by exact HFk.out.grows (.of_alloc _ _))).mono ?_
              rintro e w6 ⟨rfl, hg6, hf6⟩
              have HF6 := Lib.hid hf6
              have HG6 := Lib.hid (gTrans (gTrans HGk.out ((Grows.of_alloc _ _).grownBy _)) hg6)
              clear hf6 hg6
              go_wp2
              exact ⟨⟨k + 1, by omega, by go_num, Lib.hid (by rw [HTK.out, HST.out]; exact HF6.out), HG6⟩, by simp [intOf]; omega⟩
            | move gr tk =>
              have HMb : Hid (Bk mb 70 #[.int .i64 day, .int .i64 gr, .int .i64 tk] wr) := Lib.hid (Bk.grownBy (show Bk mb 70 #[.int .i64 day, .int .i64 gr, .int .i64 tk] w5 from hli) HGk.out (by have := Bk.ne_ (show Bk mb 70 #[.int .i64 day, .int .i64 gr, .int .i64 tk] w5 from hli) HF5.out (by decide); simpa using this))
              have HVx : Hid (Bk fv 126 #[.pointer (some ⟨fb, 0, none⟩)] wr) := Lib.hid (HV5.out.grownBy HGk.out (by have := HV5.out.ne_ HF5.out (by decide); simpa using this))
              have C2 : wr.cell? ⟨g, off + k * 2 + 1, none⟩ = some (.func (.func 63) #[] #[.pointer (some ⟨fv, 0, none⟩), .pointer (some ⟨mb, 0, none⟩)]) := C1
              have st := store_func (P := Tryz.prog) (.func 63) #[] #[.pointer (some ⟨fv, 0, none⟩), .pointer (some ⟨mb, 0, none⟩)]
              clear hli C1
              go_wp2_with fail
              refine (fo_do fb fv mb k yr ca ex day gr tk s _ (by omega) HIN.out hfi.1 hfi.2.1 hfi.2.2.1 hfi.2.2.2 (by exact HFk.out.grows (.of_alloc _ _)) (by exact (HVx.out.grows (.of_alloc _ _)).cell 0) (by exact (HMb.out.grows (.of_alloc _ _)).cell 0) (by exact (HMb.out.grows (.of_alloc _ _)).cell 1) (by exact (HMb.out.grows (.of_alloc _ _)).cell 2)).mono ?_
              rintro e w6 ⟨rfl, hg6, hf6⟩
              have HF6 := Lib.hid hf6
              have HG6 := Lib.hid (gTrans (gTrans HGk.out ((Grows.of_alloc _ _).grownBy _)) hg6)
              clear hf6 hg6
              go_wp2
              exact ⟨⟨k + 1, by omega, by go_num, Lib.hid (by rw [HTK.out, HST.out]; exact HF6.out), HG6⟩, by simp [intOf]; omega⟩
          · have HST : Hid (stepO ca ex un s (De.o ⟨day, op, mb⟩) = s) := Lib.hid (if_neg hd)
            have hel : ∃ f a b, elOf fb fv ⟨day, op, mb⟩ = (day, f, a, b) := by cases op <;> exact ⟨_, _, _, rfl⟩
            obtain ⟨f, a, b, hel⟩ := hel
            rw [hel] at C1
            have C2 : wr.cell? ⟨g, off + k * 2 + 1, none⟩ = some (.func f a b) := C1
            have st := store_func (P := Tryz.prog) f a b
            clear hel hli C1 hfi
            go_wp2
            exact ⟨⟨k + 1, by omega, by go_num, Lib.hid (by rw [HTK.out, HST.out]; exact HFk.out.grows (.of_alloc _ _)), Lib.hid (gTrans HGk.out ((Grows.of_alloc _ _).grownBy _))⟩, by simp [intOf]; omega⟩
        · have hkN : k = N := by omega
          subst hkN
          have htk : (SD.map De.o).take k = allOps ex yr l := by rw [List.take_of_length_le (by rw [List.length_map, HN.out]; exact Nat.le_refl _), HOR.out]
          rw [htk] at HFk
          have HIN : Hid (Inv k (foldF yr ca ex un l)) := Lib.hid (by
            have h1 := inv_run (ca := ca) (ex := ex) (un := un) n3 ((SD.map De.o).take k) 0 fo0 inv0 (fun y hy => by
              obtain ⟨z, hz, rfl⟩ := List.mem_map.1 (List.mem_of_mem_take hy)
              exact HFI.out z hz)
            have h2 : ((SD.map De.o).take k).length = k := by rw [List.length_take, List.length_map, HN.out]; omega
            rw [h2, htk, Nat.zero_add] at h1
            exact h1)
          have HFk : Hid (Fd fb yr ca ex (foldF yr ca ex un l) wr) := HFk
          have HVL : Hid (foldV yr ca ex un l = ((foldF yr ca ex un l).g, (foldF yr ca ex un l).t, (foldF yr ca ex un l).e, (foldF yr ca ex un l).fr + (foldF yr ca ex un l).cr)) := Lib.hid rfl
          have HRx := HR5.out.grownBy HGk.out (by have := HR5.out.ne_ HF5.out (by decide); simpa using this)
          have HVx := HV5.out.grownBy HGk.out (by have := HV5.out.ne_ HF5.out (by decide); simpa using this)
          have HBx : Below w.heap.size w wr := belowTrans GW2.out (belowTrans (belowMono HB5.out z2) (grownBelow HGk.out (fun b hb => by cases hb; exact HLE.out.2) (Nat.le_trans z2 HB5.out.size)))
          clear htk
          generalize foldF yr ca ex un l = s at *
          obtain ⟨sg, st, se, sl, sf, sc⟩ := s
          have bd := HIN.out.bd
          simp only at bd
          have hv := HVx.cell 0
          have c0 : wr.cell? ⟨fb, 0, none⟩ = some (.int .i64 sg) := HFk.out.cell 0
          have c1 : wr.cell? ⟨fb, 1, none⟩ = some (.int .i64 st) := HFk.out.cell 1
          have c2 : wr.cell? ⟨fb, 2, none⟩ = some (.int .i64 se) := HFk.out.cell 2
          have c3 : wr.cell? ⟨fb, 3, none⟩ = some (.int .i64 sl) := HFk.out.cell 3
          have c7 : wr.cell? ⟨fb, 7, none⟩ = some (.int .i64 sf) := HFk.out.cell 7
          have c8 : wr.cell? ⟨fb, 8, none⟩ = some (.int .i64 sc) := HFk.out.cell 8
          have f3 : wr.frozen? ⟨fb, 3, none⟩ = false := HFk.out.frozen 3
          have hv : wr.cell? ⟨fv, 0, none⟩ = some (.pointer (some ⟨fb, 0, none⟩)) := hv
          have HRX := Lib.hid HRx
          have HBX := Lib.hid HBx
          have hne : ¬ rb = fb := HRx.ne_ HFk.out (by decide)
          have r0 : wr.cell? ⟨rb, 0, none⟩ = some (.int .i64 0) := HRx.cell 0
          have r1 : wr.cell? ⟨rb, 1, none⟩ = some (.int .i64 0) := HRx.cell 1
          have r2 : wr.cell? ⟨rb, 2, none⟩ = some (.int .i64 0) := HRx.cell 2
          have r3 : wr.cell? ⟨rb, 3, none⟩ = some (.int .i64 0) := HRx.cell 3
          have e0 : wr.frozen? ⟨rb, 0, none⟩ = false := HRx.frozen 0
          have e1 : wr.frozen? ⟨rb, 1, none⟩ = false := HRx.frozen 1
          have e2 : wr.frozen? ⟨rb, 2, none⟩ = false := HRx.frozen 2
          have e3 : wr.frozen? ⟨rb, 3, none⟩ = false := HRx.frozen 3
          clear HRx HVx HBx
          go_wp2
          go_region
          all_goals go_wp2
          obtain ⟨wz, hwz⟩ : ∃ x, (((((wr.setCell ⟨fb, 3, none⟩ (.int .i64 (sf + sc))).setCell ⟨rb, 0, none⟩ (.int .i64 sg)).setCell ⟨rb, 1, none⟩ (.int .i64 st)).setCell ⟨rb, 2, none⟩ (.int .i64 se)).setCell ⟨rb, 3, none⟩ (.int .i64 (sf + sc))).drew = x := ⟨_, rfl⟩
          have hz : Bk rb 94 #[.int .i64 sg, .int .i64 st, .int .i64 se, .int .i64 (sf + sc)] wz := hwz ▸ ((((((HRX.out.grownBy (gSet (g := fb) wr 3 (.int .i64 (sf + sc))) (by simpa using hne)).set_ 0 (.int .i64 sg)).set_ 1 (.int .i64 st)).set_ 2 (.int .i64 se)).set_ 3 (.int .i64 (sf + sc)))).drew
          have hb : Below w.heap.size w wz := hwz ▸ ((((((HBX.out.setCell (p := ⟨fb, 3, none⟩) HLE.out.2 _).setCell (p := ⟨rb, 0, none⟩) HLE.out.1 _).setCell (p := ⟨rb, 1, none⟩) HLE.out.1 _).setCell (p := ⟨rb, 2, none⟩) HLE.out.1 _).setCell (p := ⟨rb, 3, none⟩) HLE.out.1 _).drew)
          rw [hwz, HVL.out]
          have z0 : wz.cell? ⟨rb, 0, none⟩ = some (.int .i64 sg) := hz.cell 0
          have z1 : wz.cell? ⟨rb, 1, none⟩ = some (.int .i64 st) := hz.cell 1
          have z2 : wz.cell? ⟨rb, 2, none⟩ = some (.int .i64 se) := hz.cell 2
          have z3 : wz.cell? ⟨rb, 3, none⟩ = some (.int .i64 (sf + sc)) := hz.cell 3
          exact bodyPost_ret (v := .tuple #[.agg #[.int .i64 sg, .int .i64 st, .int .i64 se, .int .i64 (sf + sc)], .int .i64 0]) (by simp [results, Tryz.results35, go_sem, z0, z1, z2, z3]) rfl ⟨rfl, hb⟩
end Go.Proofs.YtmngghglcgmkeaaGreatDoor.Lv

namespace Go.Proofs.YtmngghglcgmkeaaGreatDoor.Lv

/-- Year and month of month i, from a plan's year on. -/
def yrM (yr : Int) (i : Nat) : Int := yr + ((i / 12 : Nat) : Int)
def moM (i : Nat) : Int := ((i % 12 : Nat) : Int) + 1
/-- Month i's first day. -/
def dM (yr : Int) (i : Nat) : Int := Cal.st (yrM yr i) + Cal.cum (yrM yr i) (moM i) - 25567
theorem moM_bd (i : Nat) : 1 ≤ moM i ∧ moM i ≤ 12 := by unfold moM; omega
theorem dM_succ (yr : Int) (i : Nat) : dM yr (i + 1) = dM yr i + Cal.dim (yrM yr i) (moM i) := by
  unfold dM
  by_cases h : i % 12 = 11
  · have e1 : yrM yr (i + 1) = yrM yr i + 1 := by unfold yrM; omega
    have e2 : moM (i + 1) = 1 := by unfold moM; omega
    have e3 : moM i = 12 := by unfold moM; omega
    rw [e1, e2, e3, Cal.st_succ, Cal.cum_1]
    have := Cal.cum_succ (y := yrM yr i) (m := 12) (by omega) (by omega)
    have e4 : Cal.cum (yrM yr i) (12 + 1) = 365 + Cal.lp (yrM yr i) := Cal.cum_13 _
    omega
  · have e1 : yrM yr (i + 1) = yrM yr i := by unfold yrM; omega
    have e2 : moM (i + 1) = moM i + 1 := by unfold moM; omega
    rw [e1, e2, Cal.cum_succ (moM_bd i).1 (moM_bd i).2]
    omega
theorem dM_lt (yr : Int) (i : Nat) : dM yr i < dM yr (i + 1) := by rw [dM_succ]; have := Cal.dim_bd (yrM yr i) (moM i); omega
theorem dM_mono (yr : Int) (i k : Nat) : dM yr i ≤ dM yr (i + k) := by
  induction k with
  | zero => exact Int.le_refl _
  | succ k ih => have := dM_lt yr (i + k); rw [← Nat.add_assoc]; omega

/-- What month i's first day brings. -/
def evs (yr ex : Int) (i : Nat) : List (Int × Op) :=
  if i < 12 then [] else (if moM i = 1 then [(dM yr i, .turn)] else []) ++ (if 0 < ex ∧ ex < 12 ∧ moM i = ex + 1 then [(dM yr i, .lose)] else [])
theorem evs_day {yr ex : Int} {i : Nat} : ∀ x ∈ evs yr ex i, x.1 = dM yr i := by
  intro x hx
  unfold evs at hx
  split at hx
  · cases hx
  · rcases List.mem_append.1 hx with h | h <;> (split at h <;> first | (rw [List.mem_singleton] at h; rw [h]) | cases h)
def Tm (yr ex : Int) (i k : Nat) : List (Int × Op) := (List.range k).flatMap fun j => evs yr ex (i + j)
theorem Tm_succ (yr ex : Int) (i k : Nat) : Tm yr ex i (k + 1) = evs yr ex i ++ Tm yr ex (i + 1) k := by
  unfold Tm
  rw [List.range_succ_eq_map, List.flatMap_cons, List.flatMap_map]
  congr 1
  congr 1
  funext j
  congr 1
  omega
theorem Tm_ge {yr ex : Int} : ∀ (k i : Nat), ∀ x ∈ Tm yr ex i k, dM yr i ≤ x.1 := by
  intro k i x hx
  unfold Tm at hx
  obtain ⟨j, _, hj⟩ := List.mem_flatMap.1 hx
  rw [evs_day x hj]
  exact dM_mono yr i j
theorem Tm_srt (yr ex : Int) : ∀ (k i : Nat), Srt ltO (Tm yr ex i k)
  | 0, i => List.Pairwise.nil
  | k + 1, i => by
    rw [Tm_succ]
    refine List.pairwise_append.2 ⟨?_, Tm_srt yr ex k (i + 1), fun x hx y hy => ?_⟩
    · refine List.Pairwise.imp_of_mem (R := fun _ _ => True) (fun {a b} ha hb _ => ?_) ?_
      · have h1 := evs_day a ha; have h2 := evs_day b hb
        simp [ltO]; omega
      · exact List.pairwise_of_forall (fun _ _ => trivial)
    · have h1 := evs_day x hx
      have h2 := Tm_ge _ _ y hy
      have h3 := dM_lt yr i
      simp [ltO]; omega
theorem Tm_add (yr ex : Int) (i a b : Nat) : Tm yr ex i (a + b) = Tm yr ex i a ++ Tm yr ex (i + a) b := by
  unfold Tm
  rw [List.range_add, List.flatMap_append, List.flatMap_map]
  congr 1
  congr 1
  funext j
  congr 1
  omega
theorem Tm_first (yr ex : Int) : Tm yr ex 0 12 = [] := by
  have h : List.range 12 = [0, 1, 2, 3, 4, 5, 6, 7, 8, 9, 10, 11] := rfl
  simp [Tm, h, evs]
theorem evs_at (yr ex : Int) (q j : Nat) (hj : j < 12) : evs yr ex (12 * (q + 1) + j) =
    (if j = 0 then [(Cal.st (yr + 1 + (q : Int)) - 25567, Op.turn)] else []) ++ (if 0 < ex ∧ ex < 12 ∧ (j : Int) = ex then [(Cal.st (yr + 1 + (q : Int)) + Cal.cum (yr + 1 + (q : Int)) (ex + 1) - 25567, Op.lose)] else []) := by
  have e1 : yrM yr (12 * (q + 1) + j) = yr + 1 + (q : Int) := by unfold yrM; omega
  have e2 : moM (12 * (q + 1) + j) = (j : Int) + 1 := by unfold moM; omega
  unfold evs dM
  rw [if_neg (by omega), e1, e2]
  congr 1
  · by_cases h : j = 0
    · subst h; rw [if_pos (by simp), if_pos rfl]; simp [Cal.cum_1]
    · rw [if_neg (by omega), if_neg h]
  · by_cases h : 0 < ex ∧ ex < 12 ∧ (j : Int) = ex
    · rw [if_pos (by omega), if_pos h, h.2.2]
    · rw [if_neg (by omega), if_neg h]
theorem Tm_year (yr ex : Int) (q : Nat) : Tm yr ex (12 * (q + 1)) 12 = yearOps ex (yr + 1 + (q : Int)) := by
  have h : List.range 12 = [0, 1, 2, 3, 4, 5, 6, 7, 8, 9, 10, 11] := rfl
  unfold Tm yearOps
  rw [h]
  simp only [List.flatMap_cons, List.flatMap_nil, evs_at yr ex q _ (show 0 < 12 by omega), evs_at yr ex q 1 (by omega), evs_at yr ex q 2 (by omega), evs_at yr ex q 3 (by omega), evs_at yr ex q 4 (by omega), evs_at yr ex q 5 (by omega), evs_at yr ex q 6 (by omega), evs_at yr ex q 7 (by omega), evs_at yr ex q 8 (by omega), evs_at yr ex q 9 (by omega), evs_at yr ex q 10 (by omega), evs_at yr ex q 11 (by omega)]
  by_cases hx : 0 < ex ∧ ex < 12
  · have : ex = 1 ∨ ex = 2 ∨ ex = 3 ∨ ex = 4 ∨ ex = 5 ∨ ex = 6 ∨ ex = 7 ∨ ex = 8 ∨ ex = 9 ∨ ex = 10 ∨ ex = 11 := by omega
    rcases this with rfl | rfl | rfl | rfl | rfl | rfl | rfl | rfl | rfl | rfl | rfl <;> simp
  · have h2 : ∀ j : Int, ¬ (0 < ex ∧ ex < 12 ∧ j = ex) := fun j h => hx ⟨h.1, h.2.1⟩
    simp [hx, h2]
theorem Tm_years (yr ex : Int) (q : Nat) : Tm yr ex 12 (12 * q) = yearsOps ex yr q := by
  induction q with
  | zero => simp [Tm, yearsOps]
  | succ q ih =>
    have e : yearsOps ex yr (q + 1) = yearsOps ex yr q ++ yearOps ex (yr + 1 + (q : Int)) := by unfold yearsOps; rw [List.range_succ, List.flatMap_append]; simp
    rw [Nat.mul_add, Tm_add, ih, e, show 12 + 12 * q = 12 * (q + 1) by omega, Nat.mul_one, Tm_year]
theorem Tm_all (yr ex : Int) (q : Nat) : Tm yr ex 0 (12 * (q + 1)) = yearsOps ex yr q := by
  rw [Nat.mul_add, Nat.mul_one, Nat.add_comm, Tm_add, Tm_first, List.nil_append, Nat.zero_add, Tm_years]
end Go.Proofs.YtmngghglcgmkeaaGreatDoor.Lv

namespace Go.Proofs.YtmngghglcgmkeaaGreatDoor.Lv

/-- What month i's first day does: the turn of a year, then what is lost. -/
def evT (yr ca : Int) (i : Nat) (s : Fo) : Fo := if moM i = 1 ∧ yr < yrM yr i then keepV ca (loseV s) else s
def evS (yr ca ex : Int) (i : Nat) (s : Fo) : Fo := if moM i = ex + 1 then loseV (evT yr ca i s) else evT yr ca i s
/-- The moves ahead of a day, and not behind another one. -/
def takeM (un e : Int) : Fo → List Mv → Fo × List Mv
  | s, [] => (s, [])
  | s, x :: M => if x.1 < e ∧ x.1 ≤ un then takeM un e (moveV x.2.1 x.2.2 s) M else (s, x :: M)
/-- k months from month i on. -/
def refR (yr ca ex un : Int) : Nat → Nat → Fo → List Mv → Fo
  | 0, _, s, _ => s
  | k + 1, i, s, M => if un < dM yr i then s else refR yr ca ex un k (i + 1) (takeM un (dM yr (i + 1)) (evS yr ca ex i s) M).1 (takeM un (dM yr (i + 1)) (evS yr ca ex i s) M).2

theorem runO_append (ca ex un : Int) (A B : List (Int × Op)) (s : Fo) : runO ca ex un (A ++ B) s = runO ca ex un B (runO ca ex un A s) := by simp [runO, List.foldl_append]
theorem runO_cons (ca ex un : Int) (x : Int × Op) (B : List (Int × Op)) (s : Fo) : runO ca ex un (x :: B) s = runO ca ex un B (stepO ca ex un s x) := rfl
theorem runO_late {ca ex un : Int} : ∀ (L : List (Int × Op)) (s : Fo), (∀ x ∈ L, un < x.1) → runO ca ex un L s = s
  | [], _, _ => rfl
  | x :: L, s, h => by
    rw [runO_cons]
    have h1 := h x (by simp)
    have : stepO ca ex un s x = s := if_neg (by omega)
    rw [this]
    exact runO_late L s (fun y hy => h y (by simp [hy]))
theorem lose_idle {s : Fo} (h : s.cr = 0) : loseV s = s := by
  obtain ⟨a, b, c, d, e, f⟩ := s
  simp only at h
  subst h
  simp [loseV]
theorem evS_run {yr ca ex un : Int} {i : Nat} {s : Fo} (hd : dM yr i ≤ un) (hc : i < 12 → s.cr = 0) : runO ca ex un (evs yr ex i) s = evS yr ca ex i s := by
  have hm := moM_bd i
  by_cases hi : i < 12
  · have e1 : evT yr ca i s = s := if_neg (by unfold yrM; omega)
    have e2 : evs yr ex i = [] := if_pos hi
    unfold evS
    rw [e1, e2, lose_idle (hc hi)]
    split <;> rfl
  · have hy : yr < yrM yr i := by unfold yrM; omega
    unfold evs evS
    rw [if_neg hi]
    by_cases h1 : moM i = 1
    · have e1 : evT yr ca i s = keepV ca (loseV s) := if_pos ⟨h1, hy⟩
      have e2 : stepO ca ex un s (dM yr i, Op.turn) = turnV ca ex s := if_pos hd
      rw [if_pos h1, if_neg (by omega), List.append_nil, runO_cons, e1, e2]
      unfold turnV
      by_cases hx : ex = 0
      · rw [if_pos hx, if_pos (by omega)]; rfl
      · rw [if_neg hx, if_neg (by omega)]; rfl
    · have e1 : evT yr ca i s = s := if_neg (fun h => h1 h.1)
      rw [if_neg h1, List.nil_append, e1]
      by_cases hx : moM i = ex + 1
      · rw [if_pos ⟨by omega, by omega, hx⟩, if_pos hx, runO_cons]
        exact if_pos hd
      · rw [if_neg (fun h => hx h.2.2), if_neg hx]; rfl
/-- Moves that fit, in order of days. -/
structure Rt (M : List Mv) : Prop where
  fit : ∀ x ∈ M, ¬ unfit x
  ord : M.Pairwise fun x y => x.1 ≤ y.1
theorem Rt.tail {x : Mv} {M : List Mv} (h : Rt (x :: M)) : Rt M := ⟨fun y hy => h.fit y (by simp [hy]), (List.pairwise_cons.1 h.ord).2⟩
theorem takeM_split (un e : Int) : ∀ (M : List Mv) (s : Fo), Rt M → ∃ A B, M = A ++ B ∧ (takeM un e s M).2 = B ∧ (∀ ca ex, (takeM un e s M).1 = runO ca ex un (moveOps A) s) ∧ (∀ x ∈ A, x.1 < e ∧ x.1 ≤ un) ∧ (∀ x ∈ B, e ≤ x.1 ∨ un < x.1)
  | [], s, _ => ⟨[], [], rfl, rfl, (fun _ _ => rfl), (fun x hx => by cases hx), (fun x hx => by cases hx)⟩
  | x :: M, s, h => by
    unfold takeM
    by_cases hx : x.1 < e ∧ x.1 ≤ un
    · rw [if_pos hx]
      obtain ⟨A, B, h1, h2, h3, h4, h5⟩ := takeM_split un e M (moveV x.2.1 x.2.2 s) h.tail
      refine ⟨x :: A, B, by rw [h1]; rfl, h2, fun ca ex => ?_, fun y hy => ?_, h5⟩
      · rw [h3 ca ex]
        have : stepO ca ex un s (x.1, Op.move x.2.1 x.2.2) = moveV x.2.1 x.2.2 s := if_pos hx.2
        show _ = runO ca ex un ((x.1, Op.move x.2.1 x.2.2) :: moveOps A) s
        rw [runO_cons, this]
      · rcases List.mem_cons.1 hy with rfl | hy
        · exact hx
        · exact h4 y hy
    · rw [if_neg hx]
      refine ⟨[], x :: M, rfl, rfl, (fun _ _ => rfl), (fun y hy => by cases hy), fun y hy => ?_⟩
      have h1 : x.1 ≤ y.1 := by
        rcases List.mem_cons.1 hy with rfl | hy
        · exact Int.le_refl _
        · exact (List.pairwise_cons.1 h.ord).1 y hy
      omega
theorem takeM_cr {un e : Int} : ∀ (M : List Mv) (s : Fo), Rt M → s.cr = 0 → (takeM un e s M).1.cr = 0
  | [], s, _, h0 => h0
  | x :: M, s, h, h0 => by
    unfold takeM
    split
    · refine takeM_cr M _ h.tail ?_
      have := h.fit x (by simp)
      unfold unfit at this
      simp only [moveV, h0]; omega
    · exact h0
theorem evS_cr {yr ca ex : Int} {i : Nat} {s : Fo} (hi : i < 12) (h : s.cr = 0) : (evS yr ca ex i s).cr = 0 := by
  have e1 : evT yr ca i s = s := if_neg (by unfold yrM; omega)
  unfold evS
  rw [e1]
  split
  · rfl
  · exact h
theorem moveOps_append (A B : List Mv) : moveOps (A ++ B) = moveOps A ++ moveOps B := by simp [moveOps]
theorem mem_moveOps {M : List Mv} {x : Int × Op} (h : x ∈ moveOps M) : ∃ y ∈ M, x = (y.1, Op.move y.2.1 y.2.2) := by
  unfold moveOps at h
  obtain ⟨y, hy, rfl⟩ := List.mem_map.1 h
  exact ⟨y, hy, rfl⟩
theorem refR_run {yr ca ex un : Int} : ∀ (k i : Nat) (s : Fo) (M : List Mv), Rt M → (∀ x ∈ M, dM yr i ≤ x.1 ∧ x.1 < dM yr (i + k)) → (i < 12 → s.cr = 0) →
    runO ca ex un (mg ltO (Tm yr ex i k) (moveOps M)) s = refR yr ca ex un k i s M
  | 0, i, s, M, hr, hb, _ => by
    have : M = [] := by
      cases M with
      | nil => rfl
      | cons x M => have := hb x (by simp); simp at this; omega
    subst this
    simp [Tm, moveOps, runO, refR]
  | k + 1, i, s, M, hr, hb, hc => by
    unfold refR
    by_cases hu : un < dM yr i
    · rw [if_pos hu]
      refine runO_late _ _ (fun x hx => ?_)
      rcases mg_mem.1 hx with h | h
      · have := Tm_ge _ _ x h; omega
      · obtain ⟨y, hy, rfl⟩ := mem_moveOps h
        have := hb y hy
        simp only; omega
    · rw [if_neg hu, Tm_succ]
      have e1 := mg_split (lt := ltO) (evs yr ex i) (Tm yr ex (i + 1) k) [] (moveOps M) (fun x hx y hy => by
        obtain ⟨z, hz, rfl⟩ := mem_moveOps hy
        have h1 := evs_day x hx
        have h2 := hb z hz
        simp [ltO]; omega) (fun y hy => by cases hy)
      simp only [List.nil_append, nil_mg] at e1
      rw [e1, runO_append, evS_run (by omega) hc]
      obtain ⟨A, B, hM, hB, hA, ha, hbb⟩ := takeM_split un (dM yr (i + 1)) M (evS yr ca ex i s) hr
      rw [hB, hA ca ex]
      have hRB : Rt B := by
        have := hr
        rw [hM] at this
        exact ⟨fun x hx => this.fit x (by simp [hx]), (List.pairwise_append.1 this.ord).2.1⟩
      have hcr : i + 1 < 12 → (runO ca ex un (moveOps A) (evS yr ca ex i s)).cr = 0 := fun hi => by
        rw [← hA ca ex]; exact takeM_cr M _ hr (evS_cr (by omega) (hc (by omega)))
      rw [hM, moveOps_append]
      -- those of A are ahead of all that the later months bring
      have e2 := mg_split (lt := ltO) [] (Tm yr ex (i + 1) k) (moveOps A) (moveOps B) (fun x hx => by cases hx) (fun y hy x hx => by
        obtain ⟨z, hz, rfl⟩ := mem_moveOps hy
        have h1 := ha z hz
        have h2 := Tm_ge _ _ x hx
        simp [ltO]; omega)
      simp only [List.nil_append, mg_nil] at e2
      rw [e2, runO_append]
      -- what of B lies ahead of the next month lies behind the last day
      by_cases hlate : ∀ x ∈ B, un < x.1
      · -- nothing of B counts
        have key : ∀ (j q : Nat) (s' : Fo) (B' : List Mv), (∀ x ∈ B', un < x.1) → (q < 12 → s'.cr = 0) → runO ca ex un (mg ltO (Tm yr ex q j) (moveOps B')) s' = refR yr ca ex un j q s' B' := by
          intro j
          induction j with
          | zero =>
            intro q s' B' hB' _
            refine runO_late _ _ (fun x hx => ?_)
            rcases mg_mem.1 hx with h | h
            · simp [Tm] at h
            · obtain ⟨y, hy, rfl⟩ := mem_moveOps h; exact hB' y hy
          | succ j ih =>
            intro q s' B' hB' hc'
            unfold refR
            by_cases hq : un < dM yr q
            · rw [if_pos hq]
              refine runO_late _ _ (fun x hx => ?_)
              rcases mg_mem.1 hx with h | h
              · have := Tm_ge _ _ x h; omega
              · obtain ⟨y, hy, rfl⟩ := mem_moveOps h; exact hB' y hy
            · rw [if_neg hq, Tm_succ]
              have e3 := mg_split (lt := ltO) (evs yr ex q) (Tm yr ex (q + 1) j) [] (moveOps B') (fun x hx y hy => by
                obtain ⟨z, hz, rfl⟩ := mem_moveOps hy
                have h1 := evs_day x hx
                have h2 := hB' z hz
                simp [ltO]; omega) (fun y hy => by cases hy)
              simp only [List.nil_append, nil_mg] at e3
              have e4 : takeM un (dM yr (q + 1)) (evS yr ca ex q s') B' = (evS yr ca ex q s', B') := by
                cases B' with
                | nil => rfl
                | cons x B' => unfold takeM; rw [if_neg (by have := hB' x (by simp); omega)]
              rw [e3, runO_append, evS_run (by omega) hc', e4]
              exact ih (q + 1) _ _ hB' (fun h => evS_cr (by omega) (hc' (by omega)))
        exact key k (i + 1) _ B hlate hcr
      · refine refR_run k (i + 1) _ B hRB (fun x hx => ⟨?_, ?_⟩) hcr
        · -- B's first one is not behind the last day, so it is not ahead of the month's end
          obtain ⟨z, hz, hzu⟩ : ∃ z ∈ B, ¬ un < z.1 := by
            apply Classical.byContradiction
            intro h
            exact hlate (fun x hx => Classical.byContradiction fun h' => h ⟨x, hx, h'⟩)
          cases B with
          | nil => cases hz
          | cons b B =>
            have h1 := (List.pairwise_cons.1 hRB.ord).1
            have hbz : b.1 ≤ z.1 := by
              rcases List.mem_cons.1 hz with rfl | hz
              · exact Int.le_refl _
              · exact h1 z hz
            have hbx : b.1 ≤ x.1 := by
              rcases List.mem_cons.1 hx with rfl | hx
              · exact Int.le_refl _
              · exact h1 x hx
            have := hbb b (by simp)
            omega
        · have := (hb x (by rw [hM]; simp [hx])).2
          rwa [show i + (k + 1) = i + 1 + k by omega] at this
/-- What was checked is right. -/
theorem rt_of {yr ca ex un : Int} {l : List Mv} (h : chkV yr ca ex un l = 0) : Rt l ∧ ∀ x ∈ l, Cal.st yr - 25567 ≤ x.1 ∧ x.1 ≤ 84005 := by
  obtain ⟨hp, hz⟩ := chkV_zero h
  have hat : ∀ (i : Nat) (x : Mv), l[i]? = some x → ¬ early yr x.1 ∧ ¬ unfit x ∧ (0 < i → dayOf l (i - 1) ≤ x.1) := fun i x hx => badM_zero hx (hz i (List.getElem?_eq_some_iff.1 hx).1)
  refine ⟨⟨fun x hx => ?_, ?_⟩, fun x hx => ?_⟩
  · obtain ⟨i, hi⟩ := List.mem_iff_getElem?.1 hx
    exact (hat i x hi).2.1
  · rw [List.pairwise_iff_getElem]
    have step : ∀ (d i : Nat) (hi : i < l.length) (hj : i + d < l.length), l[i].1 ≤ l[i + d].1 := by
      intro d
      induction d with
      | zero => intro i _ _; exact Int.le_refl _
      | succ d ih =>
        intro i hi hj
        have h1 := ih i hi (by omega)
        have h2 := (hat (i + (d + 1)) _ (List.getElem?_eq_getElem hj)).2.2 (by omega)
        rw [show i + (d + 1) - 1 = i + d by omega, dayOf_at (List.getElem?_eq_getElem (show i + d < l.length by omega))] at h2
        exact Int.le_trans h1 h2
    intro i j hi hj hij
    have := step (j - i) i hi (by omega)
    have e : i + (j - i) = j := by omega
    simpa [e] using this
  · obtain ⟨i, hi⟩ := List.mem_iff_getElem?.1 hx
    have := (hat i x hi).1
    unfold early at this
    omega
theorem ss_of_srt {α : Type} {lt : α → α → Bool} : ∀ (l : List α), Srt lt l → ss lt l = l
  | [], _ => rfl
  | x :: l, h => by
    have h1 := List.pairwise_cons.1 h
    show mg lt [x] (ss lt l) = x :: l
    rw [ss_of_srt l h1.2]
    cases l with
    | nil => simp
    | cons y l => rw [mg_cons, if_neg (by simp [h1.1 y (by simp)])]; simp
theorem ltO_swk : Swk ltO := ⟨fun x y h => by simp [ltO] at h ⊢; omega, fun x y z h k => by simp [ltO] at h k ⊢; omega⟩
/-- The folding, month by month. -/
theorem foldF_eq {yr ca ex un : Int} {l : List Mv} (h : chkV yr ca ex un l = 0) : foldF yr ca ex un l = refR yr ca ex un (12 * (2200 - yr).toNat) 0 fo0 l := by
  obtain ⟨hr, hb⟩ := rt_of h
  have hp := (chkV_zero h).1.plan
  unfold noPlan at hp
  unfold foldF allOps
  have e : (2200 - yr).toNat = (2199 - yr).toNat + 1 := by omega
  rw [← refR_run _ 0 fo0 l hr (fun x hx => ?_) (fun _ => rfl), e, Tm_all, ← mg_ss ltO_swk]
  · congr 2
    · refine ss_of_srt _ ?_
      rw [← Tm_all]
      exact Tm_srt _ _ _ _
    · refine ss_of_srt _ ?_
      unfold moveOps Srt
      rw [List.pairwise_map]
      exact hr.ord.imp (fun {a b} hab => by simp [ltO]; omega)
  · have h1 := hb x hx
    constructor
    · unfold dM yrM moM; simp [Cal.cum_1]; omega
    · have e1 : yrM yr (0 + 12 * (2200 - yr).toNat) = 2200 := by unfold yrM; omega
      have e2 : moM (0 + 12 * (2200 - yr).toNat) = 1 := by unfold moM; omega
      unfold dM
      rw [e1, e2, Cal.cum_1, Cal.st_2200]
      omega
end Go.Proofs.YtmngghglcgmkeaaGreatDoor.Lv
