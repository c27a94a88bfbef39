/- The reference's Check. -/
import Derived.Test.YtkbpdbfldijeeaaDoorLSu
namespace Go.Proofs.YtkbpdbfldijeeaaDoor
open Go.RowKit Go.Sort Go.BigFrame

theorem early_year {y m dd d yr : Int} (hok : Cal.Ok y m dd) (hnum : Cal.num y m dd = d + 25567) : y < yr ↔ d < Cal.st yr - 25567 := by
  have h1 := hok.bd
  rw [hnum] at h1
  constructor
  · intro h
    have := Cal.st_mono (show y + 1 ≤ yr by omega)
    omega
  · intro h
    by_cases hy : y < yr
    · exact hy
    · have := Cal.st_mono (show yr ≤ y by omega)
      omega

set_option maxHeartbeats 2000000 in
set_option maxRecDepth 100000 in
theorem lr_Check (yr ca ex un : Int) (l : List Mv) (A : Option Addr) (cap : Nat) (w : World) (hi : Ints un l) (hs : Sl encM 3 w w.heap.size A l) :
    Calls Tryd.prog 11 #[.int .i64 yr, .int .i64 ca, .int .i64 ex, .int .i64 un, .slice A l.length cap] w fun e w' => e = .returned (.int .i64 (chkV yr ca ex un l)) ∧ Grows w w' := by
  have HD := Lib.hid hi.day
  have hl := hi.len
  have hun := hi.un
  unfold i64 at hun
  have HS := Lib.hid hs
  clear hs hi
  by_cases hp : noPlan yr ca ex
  · have L := Lib.hid (show chkV yr ca ex un l = 2 from if_pos hp)
    unfold noPlan at hp
    by_cases h0 : yr < 1900
    · go_enter Tryd.func11, Tryd.ntmps11
      go_wp2
      go_ret
      exact ⟨ret_i L.out.symm, .refl _⟩
    by_cases h1 : 2199 < yr
    · go_enter Tryd.func11, Tryd.ntmps11
      go_wp2
      go_ret
      exact ⟨ret_i L.out.symm, .refl _⟩
    by_cases h2 : ca < 0
    · go_enter Tryd.func11, Tryd.ntmps11
      go_wp2
      go_ret
      exact ⟨ret_i L.out.symm, .refl _⟩
    by_cases h3 : 1000000 < ca
    · go_enter Tryd.func11, Tryd.ntmps11
      go_wp2
      go_ret
      exact ⟨ret_i L.out.symm, .refl _⟩
    by_cases h4 : ex < 0
    · go_enter Tryd.func11, Tryd.ntmps11
      go_wp2
      go_ret
      exact ⟨ret_i L.out.symm, .refl _⟩
    have h5 : 12 < ex := by omega
    clear hp
    go_enter Tryd.func11, Tryd.ntmps11
    go_wp2
    go_ret
    exact ⟨ret_i L.out.symm, .refl _⟩
  have HP := Lib.hid hp
  unfold noPlan at hp
  have h1 : ¬ yr < 1900 := by omega
  have h2 : ¬ 2199 < yr := by omega
  have h3 : ¬ ca < 0 := by omega
  have h4 : ¬ 1000000 < ca := by omega
  have h5 : ¬ ex < 0 := by omega
  have h6 : ¬ 12 < ex := by omega
  clear hp
  go_enter Tryd.func11, Tryd.ntmps11
  go_wp2_with fail
  refine (r4_In un _ hun).mono ?_
  rintro e w1 ⟨rfl, rfl⟩
  by_cases hu : un < -25567 ∨ 84005 < un
  · have L := Lib.hid (show chkV yr ca ex un l = 15 by unfold chkV; rw [if_neg HP.out, if_pos hu])
    have d5 : decide (-25567 ≤ un ∧ un ≤ 84005) = false := decide_eq_false (by omega)
    rw [d5]
    clear hu
    go_wp2
    go_ret
    exact ⟨ret_i L.out.symm, .refl _⟩
  have d5 : decide (-25567 ≤ un ∧ un ≤ 84005) = true := decide_eq_true (by omega)
  rw [d5]
  by_cases h7 : 4096 < l.length
  · have L := Lib.hid (show chkV yr ca ex un l = 5 by unfold chkV; rw [if_neg HP.out, if_neg hu, if_pos h7])
    clear hu
    go_wp2
    go_ret
    exact ⟨ret_i L.out.symm, .refl _⟩
  have PL := Lib.hid (show Plan yr ca ex un l from ⟨HP.out, hu, h7⟩)
  clear hu
  go_wp2
  go_loopw [11] (fun iv wr => ∃ k : Nat, k ≤ l.length ∧ iv = .int .i64 k ∧ Hid (∀ j, j < k → badM yr l j = 0) ∧ Grows w wr) (fun iv _ => l.length - (intOf iv).toNat)
  case atStart => exact ⟨0, Nat.zero_le _, rfl, Lib.hid (fun _ h => absurd h (by omega)), .refl _⟩
  case round =>
    obtain ⟨k, hk, rfl, HZ, hg⟩ := hrel
    by_cases hlt : k < l.length
    · obtain ⟨b, off, rfl, hB, hc⟩ := HS.out (by intro h; simp [h] at hlt)
      obtain ⟨⟨d, gr, tk⟩, hx⟩ : ∃ x, l[k]? = some x := ⟨_, List.getElem?_eq_getElem hlt⟩
      have hd := HD.out _ (List.mem_of_getElem? hx)
      unfold i64 at hd
      have C0 : wr.cell? ⟨b, off + k * 3, none⟩ = some (.int .i64 d) := hg.cell (by omega) (by simpa using hc k _ hx 0 _ rfl)
      have HX := Lib.hid hx
      have HC := Lib.hid hc
      have hgs := hg.size
      clear hx hc
      go_wp2_with fail
      refine (r4_In d _ hd).mono ?_
      rintro e w1 ⟨rfl, rfl⟩
      by_cases he : d < -25567 ∨ 84005 < d
      · have d7 : decide (-25567 ≤ d ∧ d ≤ 84005) = false := decide_eq_false (by omega)
        have L := Lib.hid (chkM_bad PL.out HZ.out hlt (badM_early HX.out (by unfold early; simp only; omega)) (by omega))
        rw [d7]
        clear he
        go_wp2
        go_ret
        exact ⟨ret_i L.out, hg⟩
      have d7 : decide (-25567 ≤ d ∧ d ≤ 84005) = true := decide_eq_true (by omega)
      rw [d7]
      obtain ⟨y, m, dd, hok, hnum⟩ := Cal.ex (n := d + 25567) (by omega) (by omega)
      have HT := Lib.hid (fun W => r4_To y m dd d W hok (Lib.hid hnum))
      have HY := Lib.hid (early_year (yr := yr) hok hnum)
      have hfl := fieldY y m dd
      have HE := Lib.hid he
      clear hok hnum he
      go_wp2_with fail
      refine (HT.out _).mono ?_
      rintro e wb ⟨rfl, hgb0⟩
      have hgb := hg.trans hgb0
      by_cases he2 : y < yr
      · have L := Lib.hid (chkM_bad PL.out HZ.out hlt (badM_early HX.out (by have := HY.out.1 he2; unfold early; simp only; omega)) (by omega))
        go_wp2
        go_ret
        exact ⟨ret_i L.out, hgb⟩
      have HEE : Hid (¬ early yr d) := Lib.hid (by have q1 := HE.out; have q2 : ¬ d < Cal.st yr - 25567 := fun h => he2 (HY.out.2 h); unfold early; omega)
      have C0 : wb.cell? ⟨b, off + k * 3, none⟩ = some (.int .i64 d) := hgb.cell (by omega) (by simpa using HC.out k _ HX.out 0 _ rfl)
      have C1 : wb.cell? ⟨b, off + k * 3 + 1, none⟩ = some (.int .i64 gr) := hgb.cell (by omega) (HC.out k _ HX.out 1 _ rfl)
      have C2 : wb.cell? ⟨b, off + k * 3 + 2, none⟩ = some (.int .i64 tk) := hgb.cell (by omega) (HC.out k _ HX.out 2 _ rfl)
      clear hgb0
      have GR : Hid (∀ n, Grows w (wb.drewN n)) := Lib.hid (fun n => hgb.drewN n)
      by_cases hk0 : 0 < k
      · obtain ⟨⟨d', gr', tk'⟩, hy⟩ : ∃ x, l[k - 1]? = some x := ⟨_, List.getElem?_eq_getElem (by omega)⟩
        have cp : wb.cell? ⟨b, off + (k - 1) * 3, none⟩ = some (.int .i64 d') := hgb.cell (by omega) (by simpa using HC.out (k - 1) _ hy 0 _ rfl)
        have HY2 := Lib.hid hy
        have hk1 : (0 : Int) < (k : Int) := by omega
        have hk2 : (0 : Int) ≤ (k : Int) - 1 := by omega
        have hk3 : (k : Int) - 1 < (l.length : Int) := by omega
        have hk4 : ((k : Int) - 1).toNat = k - 1 := by omega
        have hk5 : IntKind.i64.wrap ((k : Int) - 1) = (k : Int) - 1 := IntWalk.i64_in _ (by omega)
        clear hy
        go_wp2_with fail
        go_big_quiet (fail)
        by_cases hdd : d < d'
        · have L := Lib.hid (chkM_bad PL.out HZ.out hlt (badM_order HX.out HY2.out HEE.out hk0 hdd) (by omega))
          go_wp2
          go_ret
          exact ⟨ret_i L.out, GR.out _⟩
        have HO : Hid (¬ (0 < k ∧ d < dayOf l (k - 1))) := Lib.hid (by rw [dayOf_at HY2.out]; omega)
        by_cases g0 : gr < 0
        · have L := Lib.hid (chkM_bad PL.out HZ.out hlt (badM_unfit HX.out HEE.out HO.out (by unfold unfit; simp only; omega)) (by omega))
          go_wp2
          go_ret
          exact ⟨ret_i L.out, GR.out _⟩
        by_cases g1 : 1000000 < gr
        · have L := Lib.hid (chkM_bad PL.out HZ.out hlt (badM_unfit HX.out HEE.out HO.out (by unfold unfit; simp only; omega)) (by omega))
          go_wp2
          go_ret
          exact ⟨ret_i L.out, GR.out _⟩
        by_cases g2 : tk < 0
        · have L := Lib.hid (chkM_bad PL.out HZ.out hlt (badM_unfit HX.out HEE.out HO.out (by unfold unfit; simp only; omega)) (by omega))
          go_wp2
          go_ret
          exact ⟨ret_i L.out, GR.out _⟩
        by_cases g3 : 1000000 < tk
        · have L := Lib.hid (chkM_bad PL.out HZ.out hlt (badM_unfit HX.out HEE.out HO.out (by unfold unfit; simp only; omega)) (by omega))
          go_wp2
          go_ret
          exact ⟨ret_i L.out, GR.out _⟩
        have BZ := Lib.hid (badM_more HZ.out (badM_fine HX.out HEE.out HO.out (by unfold unfit; simp only; omega)))
        go_wp2
        exact ⟨⟨k + 1, by omega, by go_num, BZ, GR.out _⟩, by simp [intOf]; omega⟩
      · have hk1 : ¬ (0 : Int) < (k : Int) := by omega
        have HO : Hid (¬ (0 < k ∧ d < dayOf l (k - 1))) := Lib.hid (by omega)
        go_wp2_with fail
        go_big_quiet (fail)
        by_cases g0 : gr < 0
        · have L := Lib.hid (chkM_bad PL.out HZ.out hlt (badM_unfit HX.out HEE.out HO.out (by unfold unfit; simp only; omega)) (by omega))
          go_wp2
          go_ret
          exact ⟨ret_i L.out, GR.out _⟩
        by_cases g1 : 1000000 < gr
        · have L := Lib.hid (chkM_bad PL.out HZ.out hlt (badM_unfit HX.out HEE.out HO.out (by unfold unfit; simp only; omega)) (by omega))
          go_wp2
          go_ret
          exact ⟨ret_i L.out, GR.out _⟩
        by_cases g2 : tk < 0
        · have L := Lib.hid (chkM_bad PL.out HZ.out hlt (badM_unfit HX.out HEE.out HO.out (by unfold unfit; simp only; omega)) (by omega))
          go_wp2
          go_ret
          exact ⟨ret_i L.out, GR.out _⟩
        by_cases g3 : 1000000 < tk
        · have L := Lib.hid (chkM_bad PL.out HZ.out hlt (badM_unfit HX.out HEE.out HO.out (by unfold unfit; simp only; omega)) (by omega))
          go_wp2
          go_ret
          exact ⟨ret_i L.out, GR.out _⟩
        have BZ := Lib.hid (badM_more HZ.out (badM_fine HX.out HEE.out HO.out (by unfold unfit; simp only; omega)))
        go_wp2
        exact ⟨⟨k + 1, by omega, by go_num, BZ, GR.out _⟩, by simp [intOf]; omega⟩
    · obtain rfl : k = l.length := by omega
      have L := Lib.hid (chkM_ok PL.out HZ.out rfl)
      go_wp2
      go_ret
      exact ⟨ret_i L.out, hg⟩
end Go.Proofs.YtkbpdbfldijeeaaDoor
