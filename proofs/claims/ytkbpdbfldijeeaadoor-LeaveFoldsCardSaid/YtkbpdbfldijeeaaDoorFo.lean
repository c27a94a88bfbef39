/- Contracts of the folding's methods. -/
import Derived.Test.YtkbpdbfldijeeaaDoorStK
import Derived.Test.YtkbpdbfldijeeaaDoorBk
import Derived.IntWalk
import Derived.OwnWalk
import Derived.BigRegion
namespace Go.Proofs.YtkbpdbfldijeeaaDoor
open Go.RowKit Go.Sort

/-- The folding's cells. -/
def foC (yr ca ex : Int) (s : Fo) : Array Value := #[.int .i64 s.g, .int .i64 s.t, .int .i64 s.e, .int .i64 s.l, .int .i64 yr, .int .i64 ca, .int .i64 ex, .int .i64 s.fr, .int .i64 s.cr]
abbrev Fd (fb : Nat) (yr ca ex : Int) (s : Fo) (w : World) : Prop := Bk fb 51 (foC yr ca ex s) w

set_option maxHeartbeats 1000000 in
theorem fo_lose (fb n : Nat) (yr ca ex : Int) (s : Fo) (w : World) (hn : n ≤ 1000000) (hi : Inv n s) (h : Fd fb yr ca ex s w) :
    Calls Tryd.prog 36 #[.pointer (some ⟨fb, 0, none⟩)] w fun e w' => e = .returned (.tuple #[]) ∧ w.grownBy w' (some fb) ∧ Fd fb yr ca ex (loseV s) w' := by
  have bd := hi.bd
  have b2 := hi.e0
  have b3 := hi.c0
  obtain ⟨sg, st, se, sl, sf, sc⟩ := s
  simp only at bd b2 b3
  have c2 : w.cell? ⟨fb, 2, none⟩ = some (.int .i64 se) := h.cell 2
  have c8 : w.cell? ⟨fb, 8, none⟩ = some (.int .i64 sc) := h.cell 8
  have f2 : w.frozen? ⟨fb, 2, none⟩ = false := h.frozen 2
  have f8 : w.frozen? ⟨fb, 8, none⟩ = false := h.frozen 8
  have H := Lib.hid h
  clear h
  go_enter Tryd.func36, Tryd.ntmps36
  go_wp2
  go_region
  all_goals go_wp2
  all_goals (go_end0; exact ⟨rfl, gDrew (gTrans (gSet _ _ _) (gSet _ _ _)), ((H.out.set_ 2 _).set_ 8 _).drew⟩)

set_option maxHeartbeats 1000000 in
theorem fo_turn (fb n : Nat) (yr ca ex : Int) (s : Fo) (w : World) (hn : n ≤ 1000000) (hi : Inv n s) (hca : 0 ≤ ca) (hca2 : ca ≤ 1000000) (h : Fd fb yr ca ex s w) :
    Calls Tryd.prog 34 #[.pointer (some ⟨fb, 0, none⟩)] w fun e w' => e = .returned (.tuple #[]) ∧ w.grownBy w' (some fb) ∧ Fd fb yr ca ex (turnV ca ex s) w' := by
  have H1 := Lib.hid (fo_lose fb n yr ca ex s w hn hi h)
  have I1 := Lib.hid hi.lose
  clear h hi
  go_enter Tryd.func34, Tryd.ntmps34
  go_wp2_with fail
  refine (H1.out).mono ?_
  rintro e w1 ⟨rfl, hg, h⟩
  have bd := I1.out.bd
  have b2 := I1.out.e0
  have b3 := I1.out.c0
  have TU : Hid (turnV ca ex s = if ex = 0 then loseV (keepV ca (loseV s)) else keepV ca (loseV s)) := Lib.hid rfl
  have I2 := Lib.hid (I1.out.keep hca rfl)
  have E0 : Hid ((loseV s).cr = 0) := Lib.hid rfl
  generalize loseV s = s1 at *
  obtain ⟨sg, st, se, sl, sf, sc⟩ := s1
  simp only at bd b2 b3
  have c2 : w1.cell? ⟨fb, 2, none⟩ = some (.int .i64 se) := h.cell 2
  have c5 : w1.cell? ⟨fb, 5, none⟩ = some (.int .i64 ca) := h.cell 5
  have c6 : w1.cell? ⟨fb, 6, none⟩ = some (.int .i64 ex) := h.cell 6
  have c7 : w1.cell? ⟨fb, 7, none⟩ = some (.int .i64 sf) := h.cell 7
  have c8 : w1.cell? ⟨fb, 8, none⟩ = some (.int .i64 sc) := h.cell 8
  have f2 : w1.frozen? ⟨fb, 2, none⟩ = false := h.frozen 2
  have f7 : w1.frozen? ⟨fb, 7, none⟩ = false := h.frozen 7
  have f8 : w1.frozen? ⟨fb, 8, none⟩ = false := h.frozen 8
  have H := Lib.hid h
  clear h
  by_cases hf : 0 < sf
  · have KV : Hid (keepV ca ⟨sg, st, se, sl, sf, sc⟩ = ⟨sg, st, se + (sf - min sf ca), sl, 0, min sf ca⟩) := Lib.hid (by unfold keepV; rw [if_pos hf])
    obtain ⟨k, hk⟩ : ∃ k, min sf ca = k := ⟨_, rfl⟩
    have k1 : 0 ≤ k := by omega
    have k2 : k ≤ sf := by omega
    have KM : Hid ((if ca < sf then ca else sf) = k) := Lib.hid (by split <;> omega)
    rw [hk] at KV
    clear hk
    rw [KV.out] at TU I2
    by_cases hx : ex = 0
    · have hx1 : (ex == 0) = true := by simp [hx]
      have TU2 : Hid (turnV ca ex s = loseV ⟨sg, st, se + (sf - k), sl, 0, k⟩) := Lib.hid (by rw [TU.out, if_pos hx])
      clear hx
      go_wp2
      go_region
      rw [KM.out]
      go_wp2
      go_region
      go_wp2_with fail
      refine (fo_lose fb n yr ca ex ⟨sg, st, se + (sf - k), sl, 0, k⟩ _ hn I2.out (by exact ((H.out.set_ 2 _).set_ 7 _).set_ 8 _)).mono ?_
      rintro e w2 ⟨rfl, hg2, h2⟩
      go_wp2
      go_end0
      exact ⟨rfl, gTrans (gTrans hg (by exact gDrew (gDrew (gTrans (gTrans (gSet _ _ _) (gSet _ _ _)) (gSet _ _ _))))) hg2, by rw [TU2.out]; exact h2⟩
    · have hx1 : (ex == 0) = false := by simp [hx]
      have TU2 : Hid (turnV ca ex s = ⟨sg, st, se + (sf - k), sl, 0, k⟩) := Lib.hid (by rw [TU.out, if_neg hx])
      clear hx
      go_wp2
      go_region
      rw [KM.out]
      go_wp2
      go_region
      go_wp2
      go_end0
      exact ⟨rfl, gTrans hg (by exact gDrew (gDrew (gTrans (gTrans (gSet _ _ _) (gSet _ _ _)) (gSet _ _ _)))), by rw [TU2.out]; exact ((H.out.set_ 2 _).set_ 7 _).set_ 8 _⟩
  · have KV : Hid (keepV ca ⟨sg, st, se, sl, sf, sc⟩ = ⟨sg, st, se, sl, sf, sc⟩) := Lib.hid (by unfold keepV; rw [if_neg hf])
    rw [KV.out] at TU I2
    by_cases hx : ex = 0
    · have hx1 : (ex == 0) = true := by simp [hx]
      have TU2 : Hid (turnV ca ex s = loseV ⟨sg, st, se, sl, sf, sc⟩) := Lib.hid (by rw [TU.out, if_pos hx])
      clear hx
      go_wp2_with fail
      refine (fo_lose fb n yr ca ex ⟨sg, st, se, sl, sf, sc⟩ _ hn I2.out (by exact H.out)).mono ?_
      rintro e w2 ⟨rfl, hg2, h2⟩
      go_wp2
      go_end0
      exact ⟨rfl, gTrans hg hg2, by rw [TU2.out]; exact h2⟩
    · have hx1 : (ex == 0) = false := by simp [hx]
      have TU2 : Hid (turnV ca ex s = ⟨sg, st, se, sl, sf, sc⟩) := Lib.hid (by rw [TU.out, if_neg hx])
      clear hx
      go_wp2
      go_end0
      exact ⟨rfl, hg, by rw [TU2.out]; exact H.out⟩

set_option maxHeartbeats 2000000 in
theorem fo_move (fb n : Nat) (yr ca ex d gr tk : Int) (s : Fo) (w : World) (hn : n ≤ 1000000) (hi : Inv n s) (m1 : 0 ≤ gr) (m2 : gr ≤ 1000000) (m3 : 0 ≤ tk) (m4 : tk ≤ 1000000) (h : Fd fb yr ca ex s w) :
    Calls Tryd.prog 21 #[.pointer (some ⟨fb, 0, none⟩), .agg #[.int .i64 d, .int .i64 gr, .int .i64 tk]] w fun e w' => e = .returned (.tuple #[]) ∧ w.grownBy w' (some fb) ∧ Fd fb yr ca ex (moveV gr tk s) w' := by
  have bd := hi.bd
  have g0 := hi.g0
  have g1 := hi.g1
  have t0 := hi.t0
  have t1 := hi.t1
  have b2 := hi.e0
  have b3 := hi.c0
  clear hi
  obtain ⟨sg, st, se, sl, sf, sc⟩ := s
  simp only at bd b2 b3 g0 g1 t0 t1
  have MV : Hid (moveV gr tk ⟨sg, st, se, sl, sf, sc⟩ = ⟨sg + gr, st + tk, se, sl, sf + (gr - (tk - min sc tk)), sc - min sc tk⟩) := Lib.hid rfl
  obtain ⟨k, hk⟩ : ∃ k, min sc tk = k := ⟨_, rfl⟩
  have k1 : 0 ≤ k := by omega
  have k2 : k ≤ sc := by omega
  have k3 : k ≤ tk := by omega
  have KM : Hid ((if tk < sc then tk else sc) = k) := Lib.hid (by split <;> omega)
  rw [hk] at MV
  clear hk
  have hl := h.lt
  have c0 : w.cell? ⟨fb, 0, none⟩ = some (.int .i64 sg) := h.cell 0
  have c1 : w.cell? ⟨fb, 1, none⟩ = some (.int .i64 st) := h.cell 1
  have c7 : w.cell? ⟨fb, 7, none⟩ = some (.int .i64 sf) := h.cell 7
  have c8 : w.cell? ⟨fb, 8, none⟩ = some (.int .i64 sc) := h.cell 8
  have f0 : w.frozen? ⟨fb, 0, none⟩ = false := h.frozen 0
  have f1 : w.frozen? ⟨fb, 1, none⟩ = false := h.frozen 1
  have f7 : w.frozen? ⟨fb, 7, none⟩ = false := h.frozen 7
  have f8 : w.frozen? ⟨fb, 8, none⟩ = false := h.frozen 8
  have H := Lib.hid h
  clear h
  go_enter Tryd.func21, Tryd.ntmps21
  go_wp2
  go_region
  all_goals go_wp2
  all_goals go_region
  all_goals go_wp2
  all_goals go_region
  all_goals rw [KM.out]
  all_goals go_wp2
  all_goals go_region
  all_goals go_wp2
  all_goals go_end0
  all_goals exact ⟨rfl, by exact gDrew (gDrew (gDrew (gDrew (gTrans (gTrans (gTrans (gTrans (gSet _ _ _) (gSet _ _ _)) (gSet _ _ _)) (gSet _ _ _)) ((Grows.of_alloc _ _).grownBy _))))), by rw [MV.out]; exact (((((H.out.set_ 0 _).set_ 1 _).set_ 8 _).set_ 7 _).grows (.of_alloc _ _)).drew.drew.drew.drew⟩

/-- The closure of a move's day. -/
theorem fo_do (fb fv mb n : Nat) (yr ca ex d gr tk : Int) (s : Fo) (w : World) (hn : n ≤ 1000000) (hi : Inv n s) (m1 : 0 ≤ gr) (m2 : gr ≤ 1000000) (m3 : 0 ≤ tk) (m4 : tk ≤ 1000000) (h : Fd fb yr ca ex s w)
    (hf : w.cell? ⟨fv, 0, none⟩ = some (.pointer (some ⟨fb, 0, none⟩))) (h0 : w.cell? ⟨mb, 0, none⟩ = some (.int .i64 d)) (h1 : w.cell? ⟨mb, 1, none⟩ = some (.int .i64 gr)) (h2 : w.cell? ⟨mb, 2, none⟩ = some (.int .i64 tk)) :
    Calls Tryd.prog 20 #[.pointer (some ⟨fv, 0, none⟩), .pointer (some ⟨mb, 0, none⟩)] w fun e w' => e = .returned (.tuple #[]) ∧ w.grownBy w' (some fb) ∧ Fd fb yr ca ex (moveV gr tk s) w' := by
  have HM := Lib.hid (fo_move fb n yr ca ex d gr tk s w hn hi m1 m2 m3 m4 h)
  clear h hi
  go_enter Tryd.func20, Tryd.ntmps20
  go_wp2_with fail
  refine (HM.out).mono ?_
  rintro e w1 ⟨rfl, hg, hd⟩
  go_wp2
  go_end0
  exact ⟨rfl, hg, hd⟩
end Go.Proofs.YtkbpdbfldijeeaaDoor
