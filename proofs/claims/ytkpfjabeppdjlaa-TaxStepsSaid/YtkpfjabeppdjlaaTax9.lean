/- Contracts of layer 24: both Steps. -/
import Derived.Test.YtkpfjabeppdjlaaTax8
namespace Go.Proofs.Ytkpfjabeppdjlaa
open Go.RowKit

/-- The sums with a period's base, what is withheld, and what is wrong. -/
def stepV (b t x index of al ex : Int) (T : List (Int × Int)) : (Int × Int) × (Int × Int) :=
  if fitsB b = false ∨ fitsB t = false ∨ fitsB x = false then ((b, t), (0, 2))
  else if fitsB (b + x) = false then ((b, t), (0, 9))
  else if (toDateV (b + x) index of al ex T).2 ≠ 0 then ((b, t), (0, (toDateV (b + x) index of al ex T).2))
  else if fitsB ((toDateV (b + x) index of al ex T).1 - t + ex) = false then ((b, t), (0, 9))
  else ((b + x, (toDateV (b + x) index of al ex T).1), ((toDateV (b + x) index of al ex T).1 - t + ex, 0))

theorem cell2 {w1 : World} {z : Nat} {a b : Value} (h0 : w1.cell? ⟨z, 0, none⟩ = some a) (h1 : w1.cell? ⟨z, 1, none⟩ = some b) (v u : Value) :
    ((w1.setCell ⟨z, 0, none⟩ v).setCell ⟨z, 1, none⟩ u).cell? ⟨z, 0, none⟩ = some v ∧ ((w1.setCell ⟨z, 0, none⟩ v).setCell ⟨z, 1, none⟩ u).cell? ⟨z, 1, none⟩ = some u := by
  refine ⟨?_, ?_⟩
  · rw [World.cell?_setCell_other _ _ _ _ (by simp)]; exact World.cell?_setCell_same _ _ _ h0
  · exact World.cell?_setCell_same _ _ _ ((World.cell?_setCell_other _ _ _ _ (by simp)).trans h1)
theorem cell2a {w1 : World} {z : Nat} {a b : Value} (h0 : w1.cell? ⟨z, 0, none⟩ = some a) (h1 : w1.cell? ⟨z, 1, none⟩ = some b) (v u : Value) (o : Obj) :
    (((w1.setCell ⟨z, 0, none⟩ v).setCell ⟨z, 1, none⟩ u).alloc o).cell? ⟨z, 0, none⟩ = some v ∧ (((w1.setCell ⟨z, 0, none⟩ v).setCell ⟨z, 1, none⟩ u).alloc o).cell? ⟨z, 1, none⟩ = some u := by
  have hz : z < ((w1.setCell ⟨z, 0, none⟩ v).setCell ⟨z, 1, none⟩ u).heap.size := by
    have := World.block_lt_of_cell? w1 ⟨z, 0, none⟩ h0
    simpa [World.setCell] using this
  obtain ⟨c0, c1⟩ := cell2 h0 h1 v u
  exact ⟨(World.cell?_alloc_lt _ _ _ hz).trans c0, (World.cell?_alloc_lt _ _ _ hz).trans c1⟩

theorem fits_bd {c : Int} (h : fitsB c = true) : -1125899906842624 ≤ c ∧ c ≤ 1125899906842624 := by unfold fitsB at h; simpa using h
theorem step_ret {v : (Int × Int) × (Int × Int)} {a b c d : Int} (h : v = ((a, b), (c, d))) :
    Ending.returned (.tuple #[.agg #[.int .i64 a, .int .i64 b], .int .i64 c, .int .i64 d]) = .returned (.tuple #[.agg #[.int .i64 v.1.1, .int .i64 v.1.2], .int .i64 v.2.1, .int .i64 v.2.2]) := by rw [h]
theorem step_ret4 {v : (Int × Int) × (Int × Int)} {a b c d : Int} (h : v = ((a, b), (c, d))) :
    Ending.returned (.tuple #[.int .i64 a, .int .i64 b, .int .i64 c, .int .i64 d]) = .returned (.tuple #[.int .i64 v.1.1, .int .i64 v.1.2, .int .i64 v.2.1, .int .i64 v.2.2]) := by rw [h]

theorem results_tmp4 {fn : Func} {t u v x : Tmp} (h : fn.results = #[.tmp t, .tmp u, .tmp v, .tmp x]) (tmps : Array Value) (P : Program) (w : World) :
    (results fn tmps).run P w = .ok (.tuple #[tmps.getD t undef, tmps.getD u undef, tmps.getD v undef, tmps.getD x undef]) w := by simp [results, h]

set_option maxRecDepth 100000 in
set_option maxHeartbeats 2000000 in
theorem tax_Step (b t x index of al ex : Int) (A : Option Addr) (cap : Nat) (T : List (Int × Int)) (w : World) (hcap : T.length ≤ 9223372036854775807) (hs : Sl encBand 2 w w.heap.size A T) :
    Calls Try.prog 9 #[.agg #[.int .i64 b, .int .i64 t], .int .i64 x, .int .i64 index, .int .i64 of, cardV al ex A T.length cap] w fun e W' =>
      e = .returned (.tuple #[.agg #[.int .i64 (stepV b t x index of al ex T).1.1, .int .i64 (stepV b t x index of al ex T).1.2], .int .i64 (stepV b t x index of al ex T).2.1, .int .i64 (stepV b t x index of al ex T).2.2]) ∧ Below w.heap.size w W' := by
  have bel0 : Below w.heap.size w (((w.alloc (.cells #[.int .i64 b, .int .i64 t] 30)).alloc (.cells #[.int .i64 al, .int .i64 ex, .slice A T.length cap] 28)).alloc (.cells #[.int .i64 0, .int .i64 0] 30)) := ((((Below.refl _ w).alloc (Nat.le_refl _) _).alloc (by simp) _).alloc (by simp; omega) _)
  have HSB := Lib.hid ((hs.below bel0).more bel0.size)
  have HC := Lib.hid (fun W => tax_ToDate (b + x) index of al ex A cap T W hcap)
  have hbd := toDateV_bd (base := b + x) (index := index) (of := of) (al := al) (ex := ex) (t := T)
  have hex : (toDateV (b + x) index of al ex T).2 = 0 → 0 ≤ ex ∧ ex ≤ 1125899906842624 := fun h => by
    have := (toDateV_ok h).2.2.2.1
    unfold amountB at this
    simpa using this
  have HS : Hid (stepV b t x index of al ex T = if fitsB b = false ∨ fitsB t = false ∨ fitsB x = false then ((b, t), (0, 2)) else if fitsB (b + x) = false then ((b, t), (0, 9)) else if (toDateV (b + x) index of al ex T).2 ≠ 0 then ((b, t), (0, (toDateV (b + x) index of al ex T).2)) else if fitsB ((toDateV (b + x) index of al ex T).1 - t + ex) = false then ((b, t), (0, 9)) else ((b + x, (toDateV (b + x) index of al ex T).1), ((toDateV (b + x) index of al ex T).1 - t + ex, 0))) := rfl
  generalize toDateV (b + x) index of al ex T = u at *
  clear hs hcap
  obtain ⟨u, e⟩ := u
  dsimp only at hbd hex HS HC
  have bel : ∀ w1, Below (((w.alloc (.cells #[.int .i64 b, .int .i64 t] 30)).alloc (.cells #[.int .i64 al, .int .i64 ex, .slice A T.length cap] 28)).alloc (.cells #[.int .i64 0, .int .i64 0] 30)).heap.size (((w.alloc (.cells #[.int .i64 b, .int .i64 t] 30)).alloc (.cells #[.int .i64 al, .int .i64 ex, .slice A T.length cap] 28)).alloc (.cells #[.int .i64 0, .int .i64 0] 30)) w1 → Below w.heap.size w w1 := fun w1 h => bel0.trans (h.mono bel0.size)
  have BEL := Lib.hid bel
  clear bel
  by_cases hb : fitsB b = true
  · by_cases ht : fitsB t = true
    · by_cases hx : fitsB x = true
      · have hb2 := fits_bd hb
        have ht2 := fits_bd ht
        have hx2 := fits_bd hx
        by_cases hbx : fitsB (b + x) = true
        · have hbx2 := fits_bd hbx
          by_cases he : e = 0
          · obtain ⟨x0, x1⟩ := hex he
            have he1 : (e != 0) = false := by simp [he]
            have HE := Lib.hid he
            clear he hex
            by_cases hf : fitsB (u - t + ex) = true
            · by_cases q1 : b + x = b
              · by_cases q2 : u = t
                · subst q2
                  have HS2 : Hid (stepV b u x index of al ex T = ((b, u), (ex, 0))) := by show _ = _; rw [HS.out, if_neg (by simp [hb, ht, hx]), if_neg (by simp [hbx]), if_neg (by simp [HE.out]), if_neg (by rw [hf]; simp)]; rw [q1]; congr 2; omega
                  rw [q1] at HC hbx
                  go_enter Try.func9, Try.ntmps9
                  go_wp2_with (first | (go_at_call 17; refine (tax_fits _ _).mono ?_; rintro e w' ⟨rfl, rfl⟩) | (go_at_call 12; refine (HC.out _ HSB.out).mono ?_; rintro e w1 ⟨rfl, hb1⟩; obtain ⟨hc1, hf1⟩ := bcell hb1; have hsz := hb1.size; simp only [World.size_alloc] at hsz; have hs1 : w.heap.size < w1.heap.size := (by omega); have hs2 : w.heap.size + 1 < w1.heap.size := (by omega); have hs3 : w.heap.size + 1 + 1 < w1.heap.size := (by omega); have r0 : w1.cell? ⟨w.heap.size + 1 + 1, 0, none⟩ = some (.int .i64 0) := (hc1 _ _ (by simp)).trans (by go_simp); have r1 : w1.cell? ⟨w.heap.size + 1 + 1, 1, none⟩ = some (.int .i64 0) := (hc1 _ _ (by simp)).trans (by go_simp)))
                  go_region
                  all_goals go_wp2
                  all_goals
                    exact bodyPost_ret (v := .tuple #[.agg #[.int .i64 (b), .int .i64 (u)], .int .i64 (ex), .int .i64 (0)]) (by simp [results, Try.results9, go_sem, (cell2a r0 r1 _ _ _).1, (cell2a r0 r1 _ _ _).2]) rfl ⟨step_ret (HS2.out), (((BEL.out _ hb1).setCell (p := ⟨w.heap.size + 1 + 1, 0, none⟩) (by dsimp; omega) _).setCell (p := ⟨w.heap.size + 1 + 1, 1, none⟩) (by dsimp; omega) _).drew.alloc (by simp; omega) _⟩
                · rw [q1] at HC hbx
                  have HS2 : Hid (stepV b t x index of al ex T = ((b, u), (u - t + ex, 0))) := by show _ = _; rw [HS.out, if_neg (by simp [hb, ht, hx]), if_neg (by rw [q1]; simp [hbx]), if_neg (by simp [HE.out]), if_neg (by simp [hf]), q1]
                  go_enter Try.func9, Try.ntmps9
                  go_wp2_with (first | (go_at_call 17; refine (tax_fits _ _).mono ?_; rintro e w' ⟨rfl, rfl⟩) | (go_at_call 12; refine (HC.out _ HSB.out).mono ?_; rintro e w1 ⟨rfl, hb1⟩; obtain ⟨hc1, hf1⟩ := bcell hb1; have hsz := hb1.size; simp only [World.size_alloc] at hsz; have hs1 : w.heap.size < w1.heap.size := (by omega); have hs2 : w.heap.size + 1 < w1.heap.size := (by omega); have hs3 : w.heap.size + 1 + 1 < w1.heap.size := (by omega); have r0 : w1.cell? ⟨w.heap.size + 1 + 1, 0, none⟩ = some (.int .i64 0) := (hc1 _ _ (by simp)).trans (by go_simp); have r1 : w1.cell? ⟨w.heap.size + 1 + 1, 1, none⟩ = some (.int .i64 0) := (hc1 _ _ (by simp)).trans (by go_simp)))
                  exact bodyPost_ret (v := .tuple #[.agg #[.int .i64 (b), .int .i64 (u)], .int .i64 (u - t + ex), .int .i64 (0)]) (by simp [results, Try.results9, go_sem, (cell2a r0 r1 _ _ _).1, (cell2a r0 r1 _ _ _).2]) rfl ⟨step_ret (HS2.out), (((BEL.out _ hb1).setCell (p := ⟨w.heap.size + 1 + 1, 0, none⟩) (by dsimp; omega) _).setCell (p := ⟨w.heap.size + 1 + 1, 1, none⟩) (by dsimp; omega) _).alloc (by simp; omega) _⟩
              · go_enter Try.func9, Try.ntmps9
                go_wp2_with (first | (go_at_call 17; refine (tax_fits _ _).mono ?_; rintro e w' ⟨rfl, rfl⟩) | (go_at_call 12; refine (HC.out _ HSB.out).mono ?_; rintro e w1 ⟨rfl, hb1⟩; obtain ⟨hc1, hf1⟩ := bcell hb1; have hsz := hb1.size; simp only [World.size_alloc] at hsz; have hs1 : w.heap.size < w1.heap.size := (by omega); have hs2 : w.heap.size + 1 < w1.heap.size := (by omega); have hs3 : w.heap.size + 1 + 1 < w1.heap.size := (by omega); have r0 : w1.cell? ⟨w.heap.size + 1 + 1, 0, none⟩ = some (.int .i64 0) := (hc1 _ _ (by simp)).trans (by go_simp); have r1 : w1.cell? ⟨w.heap.size + 1 + 1, 1, none⟩ = some (.int .i64 0) := (hc1 _ _ (by simp)).trans (by go_simp)))
                exact bodyPost_ret (v := .tuple #[.agg #[.int .i64 (b + x), .int .i64 (u)], .int .i64 (u - t + ex), .int .i64 (0)]) (by simp [results, Try.results9, go_sem, (cell2a r0 r1 _ _ _).1, (cell2a r0 r1 _ _ _).2]) rfl ⟨step_ret (by rw [HS.out, if_neg (by simp [hb, ht, hx]), if_neg (by simp [hbx]), if_neg (by simp [HE.out]), if_neg (by simp [hf])]), (((BEL.out _ hb1).setCell (p := ⟨w.heap.size + 1 + 1, 0, none⟩) (by dsimp; omega) _).setCell (p := ⟨w.heap.size + 1 + 1, 1, none⟩) (by dsimp; omega) _).alloc (by simp; omega) _⟩
            · have hf' : fitsB (u - t + ex) = false := by simpa using hf
              clear hf
              by_cases q1 : b + x = b
              · by_cases q2 : u = t
                · have : fitsB (u - t + ex) = true := by unfold fitsB; simp; omega
                  rw [hf'] at this; cases this
                · rw [q1] at HC hbx
                  have HS2 : Hid (stepV b t x index of al ex T = ((b, t), (0, 9))) := by show _ = _; rw [HS.out, if_neg (by simp [hb, ht, hx]), if_neg (by rw [q1]; simp [hbx]), if_neg (by simp [HE.out]), if_pos hf']
                  go_enter Try.func9, Try.ntmps9
                  go_wp2_with (first | (go_at_call 17; refine (tax_fits _ _).mono ?_; rintro e w' ⟨rfl, rfl⟩) | (go_at_call 12; refine (HC.out _ HSB.out).mono ?_; rintro e w1 ⟨rfl, hb1⟩; obtain ⟨hc1, hf1⟩ := bcell hb1; have hsz := hb1.size; simp only [World.size_alloc] at hsz; have hs1 : w.heap.size < w1.heap.size := (by omega); have hs2 : w.heap.size + 1 < w1.heap.size := (by omega); have hs3 : w.heap.size + 1 + 1 < w1.heap.size := (by omega); have r0 : w1.cell? ⟨w.heap.size + 1 + 1, 0, none⟩ = some (.int .i64 0) := (hc1 _ _ (by simp)).trans (by go_simp); have r1 : w1.cell? ⟨w.heap.size + 1 + 1, 1, none⟩ = some (.int .i64 0) := (hc1 _ _ (by simp)).trans (by go_simp)))
                  exact bodyPost_ret (v := .tuple #[.agg #[.int .i64 (b), .int .i64 (t)], .int .i64 (0), .int .i64 (9)]) (by simp [results, Try.results9, go_sem, (cell2a r0 r1 _ _ _).1, (cell2a r0 r1 _ _ _).2]) rfl ⟨step_ret (HS2.out), (((BEL.out _ hb1).setCell (p := ⟨w.heap.size + 1 + 1, 0, none⟩) (by dsimp; omega) _).setCell (p := ⟨w.heap.size + 1 + 1, 1, none⟩) (by dsimp; omega) _).alloc (by simp; omega) _⟩
              · go_enter Try.func9, Try.ntmps9
                go_wp2_with (first | (go_at_call 17; refine (tax_fits _ _).mono ?_; rintro e w' ⟨rfl, rfl⟩) | (go_at_call 12; refine (HC.out _ HSB.out).mono ?_; rintro e w1 ⟨rfl, hb1⟩; obtain ⟨hc1, hf1⟩ := bcell hb1; have hsz := hb1.size; simp only [World.size_alloc] at hsz; have hs1 : w.heap.size < w1.heap.size := (by omega); have hs2 : w.heap.size + 1 < w1.heap.size := (by omega); have hs3 : w.heap.size + 1 + 1 < w1.heap.size := (by omega); have r0 : w1.cell? ⟨w.heap.size + 1 + 1, 0, none⟩ = some (.int .i64 0) := (hc1 _ _ (by simp)).trans (by go_simp); have r1 : w1.cell? ⟨w.heap.size + 1 + 1, 1, none⟩ = some (.int .i64 0) := (hc1 _ _ (by simp)).trans (by go_simp)))
                exact bodyPost_ret (v := .tuple #[.agg #[.int .i64 (b), .int .i64 (t)], .int .i64 (0), .int .i64 (9)]) (by simp [results, Try.results9, go_sem, (cell2a r0 r1 _ _ _).1, (cell2a r0 r1 _ _ _).2]) rfl ⟨step_ret (by rw [HS.out, if_neg (by simp [hb, ht, hx]), if_neg (by simp [hbx]), if_neg (by simp [HE.out]), if_pos hf']), (((BEL.out _ hb1).setCell (p := ⟨w.heap.size + 1 + 1, 0, none⟩) (by dsimp; omega) _).setCell (p := ⟨w.heap.size + 1 + 1, 1, none⟩) (by dsimp; omega) _).alloc (by simp; omega) _⟩
          · have he1 : (e != 0) = true := by simp [he]
            have HE := Lib.hid he
            clear he hex
            go_enter Try.func9, Try.ntmps9
            go_wp2_with (first | (go_at_call 17; refine (tax_fits _ _).mono ?_; rintro e w' ⟨rfl, rfl⟩) | (go_at_call 12; refine (HC.out _ HSB.out).mono ?_; rintro e w1 ⟨rfl, hb1⟩; obtain ⟨hc1, hf1⟩ := bcell hb1; have hsz := hb1.size; simp only [World.size_alloc] at hsz; have hs1 : w.heap.size < w1.heap.size := (by omega); have hs2 : w.heap.size + 1 < w1.heap.size := (by omega); have hs3 : w.heap.size + 1 + 1 < w1.heap.size := (by omega); have r0 : w1.cell? ⟨w.heap.size + 1 + 1, 0, none⟩ = some (.int .i64 0) := (hc1 _ _ (by simp)).trans (by go_simp); have r1 : w1.cell? ⟨w.heap.size + 1 + 1, 1, none⟩ = some (.int .i64 0) := (hc1 _ _ (by simp)).trans (by go_simp)))
            exact bodyPost_ret (v := .tuple #[.agg #[.int .i64 (b), .int .i64 (t)], .int .i64 (0), .int .i64 (e)]) (by simp [results, Try.results9, go_sem, (cell2 r0 r1 _ _).1, (cell2 r0 r1 _ _).2]) rfl ⟨step_ret (by rw [HS.out, if_neg (by simp [hb, ht, hx]), if_neg (by simp [hbx]), if_pos HE.out]), ((BEL.out _ hb1).setCell (p := ⟨w.heap.size + 1 + 1, 0, none⟩) (by dsimp; omega) _).setCell (p := ⟨w.heap.size + 1 + 1, 1, none⟩) (by dsimp; omega) _⟩
        · have hbx' : fitsB (b + x) = false := by simpa using hbx
          clear hbx
          go_enter Try.func9, Try.ntmps9
          go_wp2_with (first | (go_at_call 17; refine (tax_fits _ _).mono ?_; rintro e w' ⟨rfl, rfl⟩) | (go_at_call 12; refine (HC.out _ HSB.out).mono ?_; rintro e w1 ⟨rfl, hb1⟩; obtain ⟨hc1, hf1⟩ := bcell hb1; have hsz := hb1.size; simp only [World.size_alloc] at hsz; have hs1 : w.heap.size < w1.heap.size := (by omega); have hs2 : w.heap.size + 1 < w1.heap.size := (by omega); have hs3 : w.heap.size + 1 + 1 < w1.heap.size := (by omega); have r0 : w1.cell? ⟨w.heap.size + 1 + 1, 0, none⟩ = some (.int .i64 0) := (hc1 _ _ (by simp)).trans (by go_simp); have r1 : w1.cell? ⟨w.heap.size + 1 + 1, 1, none⟩ = some (.int .i64 0) := (hc1 _ _ (by simp)).trans (by go_simp)))
          exact bodyPost_ret (v := .tuple #[.agg #[.int .i64 (b), .int .i64 (t)], .int .i64 (0), .int .i64 (9)]) (by simp [results, Try.results9, go_sem]) rfl ⟨step_ret (by rw [HS.out, if_neg (by simp [hb, ht, hx]), if_pos hbx']), (((Below.refl _ w).alloc (Nat.le_refl _) _).alloc (by simp) _).alloc (by simp; omega) _⟩
      · have hx' : fitsB x = false := by simpa using hx
        clear hx
        go_enter Try.func9, Try.ntmps9
        go_wp2_with (first | (go_at_call 17; refine (tax_fits _ _).mono ?_; rintro e w' ⟨rfl, rfl⟩) | (go_at_call 12; refine (HC.out _ HSB.out).mono ?_; rintro e w1 ⟨rfl, hb1⟩; obtain ⟨hc1, hf1⟩ := bcell hb1; have hsz := hb1.size; simp only [World.size_alloc] at hsz; have hs1 : w.heap.size < w1.heap.size := (by omega); have hs2 : w.heap.size + 1 < w1.heap.size := (by omega); have hs3 : w.heap.size + 1 + 1 < w1.heap.size := (by omega); have r0 : w1.cell? ⟨w.heap.size + 1 + 1, 0, none⟩ = some (.int .i64 0) := (hc1 _ _ (by simp)).trans (by go_simp); have r1 : w1.cell? ⟨w.heap.size + 1 + 1, 1, none⟩ = some (.int .i64 0) := (hc1 _ _ (by simp)).trans (by go_simp)))
        exact bodyPost_ret (v := .tuple #[.agg #[.int .i64 (b), .int .i64 (t)], .int .i64 (0), .int .i64 (2)]) (by simp [results, Try.results9, go_sem]) rfl ⟨step_ret (by rw [HS.out, if_pos (by simp [hx'])]), (((Below.refl _ w).alloc (Nat.le_refl _) _).alloc (by simp) _).alloc (by simp; omega) _⟩
    · have ht' : fitsB t = false := by simpa using ht
      clear ht
      go_enter Try.func9, Try.ntmps9
      go_wp2_with (first | (go_at_call 17; refine (tax_fits _ _).mono ?_; rintro e w' ⟨rfl, rfl⟩) | (go_at_call 12; refine (HC.out _ HSB.out).mono ?_; rintro e w1 ⟨rfl, hb1⟩; obtain ⟨hc1, hf1⟩ := bcell hb1; have hsz := hb1.size; simp only [World.size_alloc] at hsz; have hs1 : w.heap.size < w1.heap.size := (by omega); have hs2 : w.heap.size + 1 < w1.heap.size := (by omega); have hs3 : w.heap.size + 1 + 1 < w1.heap.size := (by omega); have r0 : w1.cell? ⟨w.heap.size + 1 + 1, 0, none⟩ = some (.int .i64 0) := (hc1 _ _ (by simp)).trans (by go_simp); have r1 : w1.cell? ⟨w.heap.size + 1 + 1, 1, none⟩ = some (.int .i64 0) := (hc1 _ _ (by simp)).trans (by go_simp)))
      exact bodyPost_ret (v := .tuple #[.agg #[.int .i64 (b), .int .i64 (t)], .int .i64 (0), .int .i64 (2)]) (by simp [results, Try.results9, go_sem]) rfl ⟨step_ret (by rw [HS.out, if_pos (by simp [ht'])]), (((Below.refl _ w).alloc (Nat.le_refl _) _).alloc (by simp) _).alloc (by simp; omega) _⟩
  · have hb' : fitsB b = false := by simpa using hb
    clear hb
    go_enter Try.func9, Try.ntmps9
    go_wp2_with (first | (go_at_call 17; refine (tax_fits _ _).mono ?_; rintro e w' ⟨rfl, rfl⟩) | (go_at_call 12; refine (HC.out _ HSB.out).mono ?_; rintro e w1 ⟨rfl, hb1⟩; obtain ⟨hc1, hf1⟩ := bcell hb1; have hsz := hb1.size; simp only [World.size_alloc] at hsz; have hs1 : w.heap.size < w1.heap.size := (by omega); have hs2 : w.heap.size + 1 < w1.heap.size := (by omega); have hs3 : w.heap.size + 1 + 1 < w1.heap.size := (by omega); have r0 : w1.cell? ⟨w.heap.size + 1 + 1, 0, none⟩ = some (.int .i64 0) := (hc1 _ _ (by simp)).trans (by go_simp); have r1 : w1.cell? ⟨w.heap.size + 1 + 1, 1, none⟩ = some (.int .i64 0) := (hc1 _ _ (by simp)).trans (by go_simp)))
    exact bodyPost_ret (v := .tuple #[.agg #[.int .i64 (b), .int .i64 (t)], .int .i64 (0), .int .i64 (2)]) (by simp [results, Try.results9, go_sem]) rfl ⟨step_ret (by rw [HS.out, if_pos (by simp [hb'])]), (((Below.refl _ w).alloc (Nat.le_refl _) _).alloc (by simp) _).alloc (by simp; omega) _⟩

set_option maxRecDepth 100000 in
set_option maxHeartbeats 2000000 in
theorem ref24_Step (b t x index of al ex : Int) (A : Option Addr) (cap : Nat) (T : List (Int × Int)) (w : World) (hcap : T.length ≤ 9223372036854775807) (hs : Sl encBand 2 w w.heap.size A T) :
    Calls Try.prog 10 #[.int .i64 b, .int .i64 t, .int .i64 x, .int .i64 index, .int .i64 of, cardV al ex A T.length cap] w fun e W' =>
      e = .returned (.tuple #[.int .i64 (stepV b t x index of al ex T).1.1, .int .i64 (stepV b t x index of al ex T).1.2, .int .i64 (stepV b t x index of al ex T).2.1, .int .i64 (stepV b t x index of al ex T).2.2]) ∧ Below w.heap.size w W' := by
  have bel0 : Below w.heap.size w (w.alloc (.cells #[.int .i64 al, .int .i64 ex, .slice A T.length cap] 28)) := ((Below.refl _ w).alloc (Nat.le_refl _) _)
  have HSB := Lib.hid ((hs.below bel0).more bel0.size)
  have HC := Lib.hid (fun W => ref24_ToDate (b + x) index of al ex A cap T W hcap)
  have hbd := toDateV_bd (base := b + x) (index := index) (of := of) (al := al) (ex := ex) (t := T)
  have hex : (toDateV (b + x) index of al ex T).2 = 0 → 0 ≤ ex ∧ ex ≤ 1125899906842624 := fun h => by
    have := (toDateV_ok h).2.2.2.1
    unfold amountB at this
    simpa using this
  have HS : Hid (stepV b t x index of al ex T = if fitsB b = false ∨ fitsB t = false ∨ fitsB x = false then ((b, t), (0, 2)) else if fitsB (b + x) = false then ((b, t), (0, 9)) else if (toDateV (b + x) index of al ex T).2 ≠ 0 then ((b, t), (0, (toDateV (b + x) index of al ex T).2)) else if fitsB ((toDateV (b + x) index of al ex T).1 - t + ex) = false then ((b, t), (0, 9)) else ((b + x, (toDateV (b + x) index of al ex T).1), ((toDateV (b + x) index of al ex T).1 - t + ex, 0))) := rfl
  generalize toDateV (b + x) index of al ex T = u at *
  clear hs hcap
  obtain ⟨u, e⟩ := u
  dsimp only at hbd hex HS HC
  have bel : ∀ w1, Below (w.alloc (.cells #[.int .i64 al, .int .i64 ex, .slice A T.length cap] 28)).heap.size (w.alloc (.cells #[.int .i64 al, .int .i64 ex, .slice A T.length cap] 28)) w1 → Below w.heap.size w w1 := fun w1 h => bel0.trans (h.mono bel0.size)
  have BEL := Lib.hid bel
  clear bel
  by_cases hb : fitsB b = true
  · by_cases ht : fitsB t = true
    · by_cases hx : fitsB x = true
      · have hb2 := fits_bd hb
        have ht2 := fits_bd ht
        have hx2 := fits_bd hx
        by_cases hbx : fitsB (b + x) = true
        · have hbx2 := fits_bd hbx
          by_cases he : e = 0
          · obtain ⟨x0, x1⟩ := hex he
            have he1 : (e != 0) = false := by simp [he]
            have HE := Lib.hid he
            clear he hex
            by_cases hf : fitsB (u - t + ex) = true
            · go_enter Try.func10, Try.ntmps10
              go_wp2_with (first | (go_at_call 18; refine (ref24_fits _ _).mono ?_; rintro e w' ⟨rfl, rfl⟩) | (go_at_call 14; refine (HC.out _ HSB.out).mono ?_; rintro e w1 ⟨rfl, hb1⟩; obtain ⟨hc1, hf1⟩ := bcell hb1))
              go_quiet (fail)
              go_wp2
              refine bodyPost_ret (results_tmp4 rfl _ _ _) rfl ?_
              exact ⟨step_ret4 (by rw [HS.out, if_neg (by simp [hb, ht, hx]), if_neg (by simp [hbx]), if_neg (by simp [HE.out]), if_neg (by simp [hf])]), below_dN (BEL.out _ hb1) _⟩
            · have hf' : fitsB (u - t + ex) = false := by simpa using hf
              clear hf
              go_enter Try.func10, Try.ntmps10
              go_wp2_with (first | (go_at_call 18; refine (ref24_fits _ _).mono ?_; rintro e w' ⟨rfl, rfl⟩) | (go_at_call 14; refine (HC.out _ HSB.out).mono ?_; rintro e w1 ⟨rfl, hb1⟩; obtain ⟨hc1, hf1⟩ := bcell hb1))
              refine bodyPost_ret (results_tmp4 rfl _ _ _) rfl ?_
              exact ⟨step_ret4 (by rw [HS.out, if_neg (by simp [hb, ht, hx]), if_neg (by simp [hbx]), if_neg (by simp [HE.out]), if_pos hf']), BEL.out _ hb1⟩
          · have he1 : (e != 0) = true := by simp [he]
            have HE := Lib.hid he
            clear he hex
            go_enter Try.func10, Try.ntmps10
            go_wp2_with (first | (go_at_call 18; refine (ref24_fits _ _).mono ?_; rintro e w' ⟨rfl, rfl⟩) | (go_at_call 14; refine (HC.out _ HSB.out).mono ?_; rintro e w1 ⟨rfl, hb1⟩; obtain ⟨hc1, hf1⟩ := bcell hb1))
            refine bodyPost_ret (results_tmp4 rfl _ _ _) rfl ?_
            exact ⟨step_ret4 (by rw [HS.out, if_neg (by simp [hb, ht, hx]), if_neg (by simp [hbx]), if_pos HE.out]), BEL.out _ hb1⟩
        · have hbx' : fitsB (b + x) = false := by simpa using hbx
          clear hbx
          go_enter Try.func10, Try.ntmps10
          go_wp2_with (first | (go_at_call 18; refine (ref24_fits _ _).mono ?_; rintro e w' ⟨rfl, rfl⟩) | (go_at_call 14; refine (HC.out _ HSB.out).mono ?_; rintro e w1 ⟨rfl, hb1⟩; obtain ⟨hc1, hf1⟩ := bcell hb1))
          refine bodyPost_ret (results_tmp4 rfl _ _ _) rfl ?_
          exact ⟨step_ret4 (by rw [HS.out, if_neg (by simp [hb, ht, hx]), if_pos hbx']), (Below.refl _ w).alloc (Nat.le_refl _) _⟩
      · have hx' : fitsB x = false := by simpa using hx
        clear hx
        go_enter Try.func10, Try.ntmps10
        go_wp2_with (first | (go_at_call 18; refine (ref24_fits _ _).mono ?_; rintro e w' ⟨rfl, rfl⟩) | (go_at_call 14; refine (HC.out _ HSB.out).mono ?_; rintro e w1 ⟨rfl, hb1⟩; obtain ⟨hc1, hf1⟩ := bcell hb1))
        refine bodyPost_ret (results_tmp4 rfl _ _ _) rfl ?_
        exact ⟨step_ret4 (by rw [HS.out, if_pos (by simp [hx'])]), (Below.refl _ w).alloc (Nat.le_refl _) _⟩
    · have ht' : fitsB t = false := by simpa using ht
      clear ht
      go_enter Try.func10, Try.ntmps10
      go_wp2_with (first | (go_at_call 18; refine (ref24_fits _ _).mono ?_; rintro e w' ⟨rfl, rfl⟩) | (go_at_call 14; refine (HC.out _ HSB.out).mono ?_; rintro e w1 ⟨rfl, hb1⟩; obtain ⟨hc1, hf1⟩ := bcell hb1))
      refine bodyPost_ret (results_tmp4 rfl _ _ _) rfl ?_
      exact ⟨step_ret4 (by rw [HS.out, if_pos (by simp [ht'])]), (Below.refl _ w).alloc (Nat.le_refl _) _⟩
  · have hb' : fitsB b = false := by simpa using hb
    clear hb
    go_enter Try.func10, Try.ntmps10
    go_wp2_with (first | (go_at_call 18; refine (ref24_fits _ _).mono ?_; rintro e w' ⟨rfl, rfl⟩) | (go_at_call 14; refine (HC.out _ HSB.out).mono ?_; rintro e w1 ⟨rfl, hb1⟩; obtain ⟨hc1, hf1⟩ := bcell hb1))
    refine bodyPost_ret (results_tmp4 rfl _ _ _) rfl ?_
    exact ⟨step_ret4 (by rw [HS.out, if_pos (by simp [hb'])]), (Below.refl _ w).alloc (Nat.le_refl _) _⟩

end Go.Proofs.Ytkpfjabeppdjlaa
