/- Merged from: Abk Abl Abm. -/
import Derived.Test.YtmngghglcgmkeaaGreatDoorAby
import Derived.Test.YtmngghglcgmkeaaGreatDoorRgwr
namespace Go.Proofs.YtmngghglcgmkeaaGreatDoor
open Go.RowKit Go.Sort

def addF (L : List Fa) (A : Option Addr) (B : Nat) (f : Fa) (e : Ending) (w' : World) : Prop := ∃ A2 cap, e = .returned (.tuple #[.agg #[.slice A2 (addL L f).1.length cap], .int .i64 (addL L f).2]) ∧ (addL L f).1.length ≤ cap ∧ SlF w' A2 (addL L f).1 ∧ (A2 = A ∨ ∀ b off, A2 = some ⟨b, off, none⟩ → off = 0 ∧ B ≤ b)
set_option maxHeartbeats 4000000 in
set_option maxRecDepth 100000 in
theorem st_AddF (L : List Fa) (A : Option Addr) (cap : Nat) (f : Fa) (w : World) (hn : L.length ≤ 4096) (hcap : L.length ≤ cap) (hs : SlF w A L) (hf : Fit f) (hT : Tb w) :
    Calls Tryz.prog 10 #[.agg #[.slice A L.length cap], .agg (FA f)] w fun e w' => addF L A w.heap.size f e w' ∧ Below w.heap.size w w' := by
  obtain ⟨sb, hsb⟩ : ∃ x, w.heap.size = x := ⟨_, rfl⟩
  obtain ⟨fb, hfb⟩ : ∃ x, sb + 1 = x := ⟨_, rfl⟩
  obtain ⟨rb, hrb⟩ : ∃ x, fb + 1 = x := ⟨_, rfl⟩
  obtain ⟨w3, hw3⟩ : ∃ x, ((w.alloc (.cells #[.slice A L.length cap] 33)).alloc (.cells (FA f) 26)).alloc (.cells #[.slice none 0 0] 33) = x := ⟨_, rfl⟩
  have HM := Lib.hid (AM.start w _ f hsb hfb hrb hw3)
  have HS := Lib.hid hs
  have HCAP := Lib.hid hcap
  have HT := Lib.hid hT
  have HF := Lib.hid hf
  have HNE : Hid (w.heap.size ≤ rb ∧ sb ≠ rb ∧ fb ≠ rb ∧ sb ≠ fb) := Lib.hid (by omega)
  have HCK := Lib.hid (fun W hT => fc_Check f W hf hT)
  have HPL := Lib.hid (fun W hs => st_place L A cap f.id W (by omega) hs)
  have HAD : Hid (addL L f = if 4096 ≤ L.length then (L, 5) else if chkF f ≠ 0 then (L, chkF f) else if 0 ≤ placeI L f.id then (L, 7) else if canE L f ≠ 0 then (L, canE L f) else (L ++ [f], 0)) := Lib.hid rfl
  clear hs hT hf hcap
  unfold valF at HCK
  unfold FA at hw3 ⊢
  go_enter Tryz.func10, Tryz.ntmps10
  go_upto_region 1 with fail
  clear hsb hfb hrb hw3
  have S0 : w3.cell? ⟨sb, 0, none⟩ = some (.slice A L.length cap) := HM.out.st.cell 0
  by_cases hbig : (4096 : Int) ≤ (L.length : Int)
  · have LL : Hid (addL L f = (L, 5)) := Lib.hid (by rw [HAD.out, if_pos (by omega)])
    clear S0
    have S0 : w3.cell? ⟨sb, 0, none⟩ = some (.slice A L.length cap) := HM.out.st.cell 0
    have R0 : w3.cell? ⟨rb, 0, none⟩ = some (.slice none 0 0) := HM.out.re.cell 0
    have G0 : w3.frozen? ⟨rb, 0, none⟩ = false := HM.out.re.frozen 0
    go_wp2
    have z0 : (w3.setCell ⟨rb, 0, none⟩ (.slice A L.length cap)).cell? ⟨rb, 0, none⟩ = some (.slice A L.length cap) := (HM.out.re.set_ 0 _).cell 0
    have hbz : Below w.heap.size w (w3.setCell ⟨rb, 0, none⟩ (.slice A L.length cap)) := HM.out.bel.setCell (p := ⟨rb, 0, none⟩) HNE.out.1 _
    clear S0 R0 G0
    generalize w3.setCell ⟨rb, 0, none⟩ (.slice A L.length cap) = wz at *
    exact bodyPost_ret (v := .tuple #[.agg #[.slice A L.length cap], .int .i64 (5)]) (by simp [results, Tryz.results10, go_sem, z0]) rfl ⟨⟨A, cap, by rw [LL.out], by rw [LL.out]; exact HCAP.out, by rw [LL.out]; exact HS.out.below hbz, .inl rfl⟩, hbz⟩
  have HA1 : Hid (addL L f = if chkF f ≠ 0 then (L, chkF f) else if 0 ≤ placeI L f.id then (L, 7) else if canE L f ≠ 0 then (L, canE L f) else (L ++ [f], 0)) := Lib.hid (by rw [HAD.out, if_neg (by omega)])
  go_upto_region 4 with fail
  clear S0
  have F0 : w3.cell? ⟨fb, 0, none⟩ = some (.int .u32 f.id) := HM.out.fa.cell 0
  have F1 : w3.cell? ⟨fb, 1, none⟩ = some (.int .u32 f.pe) := HM.out.fa.cell 1
  have F2 : w3.cell? ⟨fb, 2, none⟩ = some (.int .i64 f.ki) := HM.out.fa.cell 2
  have F3 : w3.cell? ⟨fb, 3, none⟩ = some (.int .i64 f.fr) := HM.out.fa.cell 3
  have F4 : w3.cell? ⟨fb, 4, none⟩ = some (.int .i64 f.to) := HM.out.fa.cell 4
  have F5 : w3.cell? ⟨fb, 5, none⟩ = some (.string f.co) := HM.out.fa.cell 5
  have F6 : w3.cell? ⟨fb, 6, none⟩ = some (.int .i64 f.nu) := HM.out.fa.cell 6
  have F7 : w3.cell? ⟨fb, 7, none⟩ = some (.string f.tx) := HM.out.fa.cell 7
  go_wp2_with fail
  refine (HCK.out _ (HT.out.below HM.out.bel)).mono ?_
  rintro e w4 ⟨rfl, hb4⟩
  have HM4 := Lib.hid (HM.out.below hb4)
  clear F0 F1 F2 F3 F4 F5 F6 F7 hb4
  have HCC := Lib.hid (fun h W hs => st_cancel L A cap f W (by omega) hs (chk_cancel h))
  unfold FA at HCC
  generalize chkF f = ce at *
  by_cases hce : ce = 0
  · have bce : (ce != 0) = false := by rw [hce]; rfl
    have HCE := Lib.hid hce
    have HA2 : Hid (addL L f = if 0 ≤ placeI L f.id then (L, 7) else if canE L f ≠ 0 then (L, canE L f) else (L ++ [f], 0)) := Lib.hid (by rw [HA1.out, if_neg (fun h => h hce)])
    clear hce
    go_upto_region 7 with fail
    have S0 : w4.cell? ⟨sb, 0, none⟩ = some (.slice A L.length cap) := HM4.out.st.cell 0
    have F0 : w4.cell? ⟨fb, 0, none⟩ = some (.int .u32 f.id) := HM4.out.fa.cell 0
    go_wp2_with fail
    refine (HPL.out _ (HS.out.below HM4.out.bel)).mono ?_
    rintro e w5 ⟨rfl, hb5⟩
    have HM5 := Lib.hid (HM4.out.below hb5)
    clear S0 F0 hb5
    generalize placeI L f.id = pl at *
    by_cases hpl : 0 ≤ pl
    · have LL : Hid (addL L f = (L, 7)) := Lib.hid (by rw [HA2.out, if_pos hpl])
      have S0 : w5.cell? ⟨sb, 0, none⟩ = some (.slice A L.length cap) := HM5.out.st.cell 0
      have R0 : w5.cell? ⟨rb, 0, none⟩ = some (.slice none 0 0) := HM5.out.re.cell 0
      have G0 : w5.frozen? ⟨rb, 0, none⟩ = false := HM5.out.re.frozen 0
      go_wp2
      have z0 : (w5.setCell ⟨rb, 0, none⟩ (.slice A L.length cap)).cell? ⟨rb, 0, none⟩ = some (.slice A L.length cap) := (HM5.out.re.set_ 0 _).cell 0
      have hbz : Below w.heap.size w (w5.setCell ⟨rb, 0, none⟩ (.slice A L.length cap)) := HM5.out.bel.setCell (p := ⟨rb, 0, none⟩) HNE.out.1 _
      clear S0 R0 G0
      generalize w5.setCell ⟨rb, 0, none⟩ (.slice A L.length cap) = wz at *
      exact bodyPost_ret (v := .tuple #[.agg #[.slice A L.length cap], .int .i64 (7)]) (by simp [results, Tryz.results10, go_sem, z0]) rfl ⟨⟨A, cap, by rw [LL.out], by rw [LL.out]; exact HCAP.out, by rw [LL.out]; exact HS.out.below hbz, .inl rfl⟩, hbz⟩
    have HA3 : Hid (addL L f = if canE L f ≠ 0 then (L, canE L f) else (L ++ [f], 0)) := Lib.hid (by rw [HA2.out, if_neg hpl])
    have hpl2 : ¬ 0 ≤ pl := hpl
    clear hpl
    go_upto_region 9 with fail
    have S0 : w5.cell? ⟨sb, 0, none⟩ = some (.slice A L.length cap) := HM5.out.st.cell 0
    have F0 : w5.cell? ⟨fb, 0, none⟩ = some (.int .u32 f.id) := HM5.out.fa.cell 0
    have F1 : w5.cell? ⟨fb, 1, none⟩ = some (.int .u32 f.pe) := HM5.out.fa.cell 1
    have F2 : w5.cell? ⟨fb, 2, none⟩ = some (.int .i64 f.ki) := HM5.out.fa.cell 2
    have F3 : w5.cell? ⟨fb, 3, none⟩ = some (.int .i64 f.fr) := HM5.out.fa.cell 3
    have F4 : w5.cell? ⟨fb, 4, none⟩ = some (.int .i64 f.to) := HM5.out.fa.cell 4
    have F5 : w5.cell? ⟨fb, 5, none⟩ = some (.string f.co) := HM5.out.fa.cell 5
    have F6 : w5.cell? ⟨fb, 6, none⟩ = some (.int .i64 f.nu) := HM5.out.fa.cell 6
    have F7 : w5.cell? ⟨fb, 7, none⟩ = some (.string f.tx) := HM5.out.fa.cell 7
    go_wp2_with fail
    refine (HCC.out HCE.out _ (HS.out.below HM5.out.bel)).mono ?_
    rintro e w6 ⟨rfl, hb6⟩
    have HM6 := Lib.hid (HM5.out.below hb6)
    clear S0 F0 F1 F2 F3 F4 F5 F6 F7 hb6
    generalize canE L f = ca at *
    by_cases hca : ca = 0
    · have bca : (ca != 0) = false := by rw [hca]; rfl
      have LL : Hid (addL L f = (L ++ [f], 0)) := Lib.hid (by rw [HA3.out, if_neg (fun h => h hca)])
      clear hca
      obtain ⟨ZC, hZC, hmk⟩ := run_makeF (L.length + 1) (by omega)
      rw [show ((L.length + 1 : Nat) : Int) = (L.length : Int) + 1 by omega] at hmk
      go_upto_region 13 with fail
      obtain ⟨g, hg⟩ : ∃ x, w6.heap.size = x := ⟨_, rfl⟩
      obtain ⟨w7, hw7⟩ : ∃ x, w6.alloc (.cells ZC.toArray 26) = x := ⟨_, rfl⟩
      have HM7 : Hid (AM w w7 sb fb rb (.slice A L.length cap) f) := Lib.hid (HM6.out.below (by rw [← hw7]; exact bAlloc w6 _))
      have HG7 : Hid (w7.drew.heap[g]? = some (.cells ZC.toArray 26 (0, 0))) := Lib.hid (by rw [← hw7, ← hg]; exact new_block w6 _)
      have HGE : Hid (w.heap.size ≤ g ∧ sb ≠ g ∧ fb ≠ g ∧ rb ≠ g) := Lib.hid (by have h1 := HM6.out.st.lt; have h2 := HM6.out.fa.lt; have h3 := HM6.out.re.lt; have h4 := HM6.out.bel.size; omega)
      rw [hw7, hg]
      clear hg hw7 hmk
      obtain ⟨w8, hw8⟩ : ∃ x, w7.drew.setRow g (rowF L ++ ZC.drop (L.length * 8)).toArray = x := ⟨_, rfl⟩
      have hcp : ∀ ty, (Builtin.copy_ #[22, 22] ty #[.slice (some ⟨g, 0, none⟩) (L.length + 1) (L.length + 1), .slice A L.length cap]).run Tryz.prog w7.drew = .ok (goInt L.length) w8 := fun ty => by rw [← hw8]; exact run_copyF w7.drew g A L cap ty ZC HG7.out hZC (HS.out.below (HM7.out.bel.trans (bDrewB w7 _)))
      have HG8 : Hid (w8.heap[g]? = some (.cells (rowF L ++ ZC.drop (L.length * 8)).toArray 26 (0, 0))) := Lib.hid (by rw [← hw8]; exact setRow_heap w7.drew g _ _ _ _ HG7.out)
      have HM8 : Hid (AM w w8 sb fb rb (.slice A L.length cap) f) := Lib.hid (by rw [← hw8]; exact (HM7.out.below (bDrewB w7 _)).row HGE.out _)
      clear hw8
      have S0 : w7.drew.cell? ⟨sb, 0, none⟩ = some (.slice A L.length cap) := (HM7.out.below (bDrewB w7 _)).st.cell 0
      have F0 : w7.drew.cell? ⟨fb, 0, none⟩ = some (.int .u32 f.id) := (HM7.out.below (bDrewB w7 _)).fa.cell 0
      have E0 : w8.cell? ⟨fb, 0, none⟩ = some (.int .u32 f.id) := HM8.out.fa.cell 0
      obtain ⟨zI0, I0⟩ : ∃ z, w8.cell? ⟨g, L.length * 8, none⟩ = some z := row_some (n := 8) HG8.out (by omega)
      have G0 : w8.frozen? ⟨g, L.length * 8, none⟩ = false := frozen_of_row w8 g _ _ _ HG8.out
      have F1 : w7.drew.cell? ⟨fb, 1, none⟩ = some (.int .u32 f.pe) := (HM7.out.below (bDrewB w7 _)).fa.cell 1
      have E1 : w8.cell? ⟨fb, 1, none⟩ = some (.int .u32 f.pe) := HM8.out.fa.cell 1
      obtain ⟨zI1, I1⟩ : ∃ z, w8.cell? ⟨g, L.length * 8 + 1, none⟩ = some z := row_some (n := 8) HG8.out (by omega)
      have G1 : w8.frozen? ⟨g, L.length * 8 + 1, none⟩ = false := frozen_of_row w8 g _ _ _ HG8.out
      have F2 : w7.drew.cell? ⟨fb, 2, none⟩ = some (.int .i64 f.ki) := (HM7.out.below (bDrewB w7 _)).fa.cell 2
      have E2 : w8.cell? ⟨fb, 2, none⟩ = some (.int .i64 f.ki) := HM8.out.fa.cell 2
      obtain ⟨zI2, I2⟩ : ∃ z, w8.cell? ⟨g, L.length * 8 + 2, none⟩ = some z := row_some (n := 8) HG8.out (by omega)
      have G2 : w8.frozen? ⟨g, L.length * 8 + 2, none⟩ = false := frozen_of_row w8 g _ _ _ HG8.out
      have F3 : w7.drew.cell? ⟨fb, 3, none⟩ = some (.int .i64 f.fr) := (HM7.out.below (bDrewB w7 _)).fa.cell 3
      have E3 : w8.cell? ⟨fb, 3, none⟩ = some (.int .i64 f.fr) := HM8.out.fa.cell 3
      obtain ⟨zI3, I3⟩ : ∃ z, w8.cell? ⟨g, L.length * 8 + 3, none⟩ = some z := row_some (n := 8) HG8.out (by omega)
      have G3 : w8.frozen? ⟨g, L.length * 8 + 3, none⟩ = false := frozen_of_row w8 g _ _ _ HG8.out
      have F4 : w7.drew.cell? ⟨fb, 4, none⟩ = some (.int .i64 f.to) := (HM7.out.below (bDrewB w7 _)).fa.cell 4
      have E4 : w8.cell? ⟨fb, 4, none⟩ = some (.int .i64 f.to) := HM8.out.fa.cell 4
      obtain ⟨zI4, I4⟩ : ∃ z, w8.cell? ⟨g, L.length * 8 + 4, none⟩ = some z := row_some (n := 8) HG8.out (by omega)
      have G4 : w8.frozen? ⟨g, L.length * 8 + 4, none⟩ = false := frozen_of_row w8 g _ _ _ HG8.out
      have F5 : w7.drew.cell? ⟨fb, 5, none⟩ = some (.string f.co) := (HM7.out.below (bDrewB w7 _)).fa.cell 5
      have E5 : w8.cell? ⟨fb, 5, none⟩ = some (.string f.co) := HM8.out.fa.cell 5
      obtain ⟨zI5, I5⟩ : ∃ z, w8.cell? ⟨g, L.length * 8 + 5, none⟩ = some z := row_some (n := 8) HG8.out (by omega)
      have G5 : w8.frozen? ⟨g, L.length * 8 + 5, none⟩ = false := frozen_of_row w8 g _ _ _ HG8.out
      have F6 : w7.drew.cell? ⟨fb, 6, none⟩ = some (.int .i64 f.nu) := (HM7.out.below (bDrewB w7 _)).fa.cell 6
      have E6 : w8.cell? ⟨fb, 6, none⟩ = some (.int .i64 f.nu) := HM8.out.fa.cell 6
      obtain ⟨zI6, I6⟩ : ∃ z, w8.cell? ⟨g, L.length * 8 + 6, none⟩ = some z := row_some (n := 8) HG8.out (by omega)
      have G6 : w8.frozen? ⟨g, L.length * 8 + 6, none⟩ = false := frozen_of_row w8 g _ _ _ HG8.out
      have F7 : w7.drew.cell? ⟨fb, 7, none⟩ = some (.string f.tx) := (HM7.out.below (bDrewB w7 _)).fa.cell 7
      have E7 : w8.cell? ⟨fb, 7, none⟩ = some (.string f.tx) := HM8.out.fa.cell 7
      obtain ⟨zI7, I7⟩ : ∃ z, w8.cell? ⟨g, L.length * 8 + 7, none⟩ = some z := row_some (n := 8) HG8.out (by omega)
      have G7 : w8.frozen? ⟨g, L.length * 8 + 7, none⟩ = false := frozen_of_row w8 g _ _ _ HG8.out
      have hx0 : (0 : Int) ≤ (L.length : Int) := by omega
      have hx1 : (L.length : Int) < (L.length : Int) + 1 := by omega
      obtain ⟨w9, hw9⟩ : ∃ x, w8.setCells g (L.length * 8) (encF f) = x := ⟨_, rfl⟩
      have hw9c : ((((((((w8.setCell ⟨g, L.length * 8, none⟩ (.int .u32 f.id)).setCell ⟨g, L.length * 8 + 1, none⟩ (.int .u32 f.pe)).setCell ⟨g, L.length * 8 + 2, none⟩ (.int .i64 f.ki)).setCell ⟨g, L.length * 8 + 3, none⟩ (.int .i64 f.fr)).setCell ⟨g, L.length * 8 + 4, none⟩ (.int .i64 f.to)).setCell ⟨g, L.length * 8 + 5, none⟩ (.string f.co)).setCell ⟨g, L.length * 8 + 6, none⟩ (.int .i64 f.nu)).setCell ⟨g, L.length * 8 + 7, none⟩ (.string f.tx)) = w9 := hw9
      have HM9 : Hid (AM w w9 sb fb rb (.slice A L.length cap) f) := Lib.hid (by rw [← hw9]; exact HM8.out.cells HGE.out _ _)
      have HS9 : Hid (SlF w9 (some ⟨g, 0, none⟩) (L ++ [f])) := Lib.hid (rowAdd L f _ HG8.out (by rw [List.length_drop, hZC]; omega) hw9.symm)
      have R9 : w9.cell? ⟨rb, 0, none⟩ = some (.slice none 0 0) := HM9.out.re.cell 0
      have K9 : w9.frozen? ⟨rb, 0, none⟩ = false := HM9.out.re.frozen 0
      go_region_law (refine step_copyF rfl (.tmp 39) (.tmp 41) _ _ rfl L.length (.slice (some ⟨g, 0, none⟩) (L.length + 1) (L.length + 1)) (.slice A L.length cap) hcp (by simp [Act.eval]) (by simp [Act.eval]) ?_)
      all_goals
        clear hw9c hw9
        go_wp2
        have z0 : (w9.setCell ⟨rb, 0, none⟩ (.slice (some ⟨g, 0, none⟩) (L.length + 1) (L.length + 1))).cell? ⟨rb, 0, none⟩ = some (.slice (some ⟨g, 0, none⟩) (L.length + 1) (L.length + 1)) := (HM9.out.re.set_ 0 _).cell 0
        have hbz : Below w.heap.size w (w9.setCell ⟨rb, 0, none⟩ (.slice (some ⟨g, 0, none⟩) (L.length + 1) (L.length + 1))) := HM9.out.bel.setCell (p := ⟨rb, 0, none⟩) HNE.out.1 _
        have hsz : SlF (w9.setCell ⟨rb, 0, none⟩ (.slice (some ⟨g, 0, none⟩) (L.length + 1) (L.length + 1))) (some ⟨g, 0, none⟩) (L ++ [f]) := HS9.out.put HGE.out.2.2.2 _
        generalize w9.setCell ⟨rb, 0, none⟩ (.slice (some ⟨g, 0, none⟩) (L.length + 1) (L.length + 1)) = wz at *
        exact bodyPost_ret (v := .tuple #[.agg #[.slice (some ⟨g, 0, none⟩) (L.length + 1) (L.length + 1)], .int .i64 0]) (by simp [results, Tryz.results10, go_sem, z0]) rfl ⟨⟨some ⟨g, 0, none⟩, L.length + 1, by rw [LL.out, List.length_append]; rfl, by rw [LL.out, List.length_append]; exact Nat.le_refl _, by rw [LL.out]; exact hsz, .inr fun b off h => by injection h with h; injection h with h h2 _; have := HGE.out; exact ⟨by omega, by omega⟩⟩, hbz⟩
    · have bca : (ca != 0) = true := bne_iff_ne.2 hca
      have LL : Hid (addL L f = (L, ca)) := Lib.hid (by rw [HA3.out, if_pos hca])
      clear hca
      have S0 : w6.cell? ⟨sb, 0, none⟩ = some (.slice A L.length cap) := HM6.out.st.cell 0
      have R0 : w6.cell? ⟨rb, 0, none⟩ = some (.slice none 0 0) := HM6.out.re.cell 0
      have G0 : w6.frozen? ⟨rb, 0, none⟩ = false := HM6.out.re.frozen 0
      go_wp2
      have z0 : (w6.setCell ⟨rb, 0, none⟩ (.slice A L.length cap)).cell? ⟨rb, 0, none⟩ = some (.slice A L.length cap) := (HM6.out.re.set_ 0 _).cell 0
      have hbz : Below w.heap.size w (w6.setCell ⟨rb, 0, none⟩ (.slice A L.length cap)) := HM6.out.bel.setCell (p := ⟨rb, 0, none⟩) HNE.out.1 _
      clear S0 R0 G0
      generalize w6.setCell ⟨rb, 0, none⟩ (.slice A L.length cap) = wz at *
      exact bodyPost_ret (v := .tuple #[.agg #[.slice A L.length cap], .int .i64 (ca)]) (by simp [results, Tryz.results10, go_sem, z0]) rfl ⟨⟨A, cap, by rw [LL.out], by rw [LL.out]; exact HCAP.out, by rw [LL.out]; exact HS.out.below hbz, .inl rfl⟩, hbz⟩
  · have bce : (ce != 0) = true := bne_iff_ne.2 hce
    have LL : Hid (addL L f = (L, ce)) := Lib.hid (by rw [HA1.out, if_pos hce])
    clear hce
    have S0 : w4.cell? ⟨sb, 0, none⟩ = some (.slice A L.length cap) := HM4.out.st.cell 0
    have R0 : w4.cell? ⟨rb, 0, none⟩ = some (.slice none 0 0) := HM4.out.re.cell 0
    have G0 : w4.frozen? ⟨rb, 0, none⟩ = false := HM4.out.re.frozen 0
    go_wp2
    have z0 : (w4.setCell ⟨rb, 0, none⟩ (.slice A L.length cap)).cell? ⟨rb, 0, none⟩ = some (.slice A L.length cap) := (HM4.out.re.set_ 0 _).cell 0
    have hbz : Below w.heap.size w (w4.setCell ⟨rb, 0, none⟩ (.slice A L.length cap)) := HM4.out.bel.setCell (p := ⟨rb, 0, none⟩) HNE.out.1 _
    clear S0 R0 G0
    generalize w4.setCell ⟨rb, 0, none⟩ (.slice A L.length cap) = wz at *
    exact bodyPost_ret (v := .tuple #[.agg #[.slice A L.length cap], .int .i64 (ce)]) (by simp [results, Tryz.results10, go_sem, z0]) rfl ⟨⟨A, cap, by rw [LL.out], by rw [LL.out]; exact HCAP.out, by rw [LL.out]; exact HS.out.below hbz, .inl rfl⟩, hbz⟩

def kiN (co : ByteArray) : Int := if (kiB co).2 = true then (kiB co).1 else -1
set_option maxHeartbeats 2000000 in
theorem r18_Kind (co : ByteArray) (w : World) : Calls Tryz.prog 26 #[.string co] w fun e w' => e = .returned (.int .i64 (kiN co)) ∧ Below w.heap.size w w' := by
  have HV : Hid (kiB co = if (co.toList == [115, 105, 99, 107]) = true then (0, true) else if (co.toList == [108, 101, 97, 118, 101]) = true then (1, true) else if (co.toList == [117, 110, 112, 97, 105, 100]) = true then (2, true) else if (co.toList == [112, 97, 114, 101, 110, 116, 97, 108]) = true then (3, true) else (0, false)) := Lib.hid rfl
  have HK : Hid (kiN co = if (kiB co).2 = true then (kiB co).1 else -1) := Lib.hid rfl
  obtain ⟨kv, hkv⟩ : ∃ v, kiB co = v := ⟨_, rfl⟩
  obtain ⟨kn, hkn⟩ : ∃ v, kiN co = v := ⟨_, rfl⟩
  rw [hkv] at HV HK
  rw [hkn] at HK ⊢
  clear hkv hkn
  obtain ⟨v0, h0⟩ : ∃ v, (co.toList == [115, 105, 99, 107]) = v := ⟨_, rfl⟩
  obtain ⟨v1, h1⟩ : ∃ v, (co.toList == [108, 101, 97, 118, 101]) = v := ⟨_, rfl⟩
  obtain ⟨v2, h2⟩ : ∃ v, (co.toList == [117, 110, 112, 97, 105, 100]) = v := ⟨_, rfl⟩
  obtain ⟨v3, h3⟩ : ∃ v, (co.toList == [112, 97, 114, 101, 110, 116, 97, 108]) = v := ⟨_, rfl⟩
  rw [h0, h1, h2, h3] at HV
  have g0 : (([115, 105, 99, 107] : List UInt8) == co.toList) = v0 := by rw [BEq.comm]; exact h0
  have g1 : (([108, 101, 97, 118, 101] : List UInt8) == co.toList) = v1 := by rw [BEq.comm]; exact h1
  have g2 : (([117, 110, 112, 97, 105, 100] : List UInt8) == co.toList) = v2 := by rw [BEq.comm]; exact h2
  have g3 : (([112, 97, 114, 101, 110, 116, 97, 108] : List UInt8) == co.toList) = v3 := by rw [BEq.comm]; exact h3
  clear h0 h1 h2 h3
  obtain ⟨lb, hlb⟩ : ∃ z, w.heap.size = z := ⟨_, rfl⟩
  obtain ⟨w2, hw2⟩ : ∃ z, w.alloc (.cells #[.string ⟨#[115, 105, 99, 107]⟩, .string ⟨#[108, 101, 97, 118, 101]⟩, .string ⟨#[117, 110, 112, 97, 105, 100]⟩, .string ⟨#[112, 97, 114, 101, 110, 116, 97, 108]⟩] 9) = z := ⟨_, rfl⟩
  have hk : Bk lb 9 #[.string ⟨#[115, 105, 99, 107]⟩, .string ⟨#[108, 101, 97, 118, 101]⟩, .string ⟨#[117, 110, 112, 97, 105, 100]⟩, .string ⟨#[112, 97, 114, 101, 110, 116, 97, 108]⟩] w2 := by rw [← hw2, ← hlb]; exact Bk.new _ _ _
  have HB2 : Hid (Below w.heap.size w w2) := Lib.hid (by rw [← hw2]; exact bAlloc _ _)
  have C0 : w2.cell? ⟨lb, 0, none⟩ = some (.string ⟨#[115, 105, 99, 107]⟩) := hk.cell 0
  have C1 : w2.cell? ⟨lb, 1, none⟩ = some (.string ⟨#[108, 101, 97, 118, 101]⟩) := hk.cell 1
  have C2 : w2.cell? ⟨lb, 2, none⟩ = some (.string ⟨#[117, 110, 112, 97, 105, 100]⟩) := hk.cell 2
  have C3 : w2.cell? ⟨lb, 3, none⟩ = some (.string ⟨#[112, 97, 114, 101, 110, 116, 97, 108]⟩) := hk.cell 3
  have HE := Lib.hid (And.intro hlb hw2)
  clear hlb hw2 hk
  go_enter Tryz.func26, Tryz.ntmps26
  go_upto_region 2 with fail
  rw [HE.out.1, HE.out.2]
  clear HE
  go_wp2
  go_loopw [4] (fun kv wr => (kv = .int .i64 0 ∨ (v0 = false ∧ kv = .int .i64 1) ∨ (v0 = false ∧ v1 = false ∧ kv = .int .i64 2) ∨ (v0 = false ∧ v1 = false ∧ v2 = false ∧ kv = .int .i64 3) ∨ (v0 = false ∧ v1 = false ∧ v2 = false ∧ v3 = false ∧ kv = .int .i64 4)) ∧ w2 = wr) (fun kv _ => 4 - (intOf kv).toNat)
  case atStart => exact ⟨.inl rfl, by first | trivial | rfl⟩
  case round =>
    obtain ⟨hk, hww⟩ := hrel
    subst hww
    rcases hk with rfl | ⟨rfl, rfl⟩ | ⟨rfl, rfl, rfl⟩ | ⟨rfl, rfl, rfl, rfl⟩ | ⟨rfl, rfl, rfl, rfl, rfl⟩
    · cases v0 with
      | true =>
        have HF : Hid (kn = 0) := Lib.hid (by rw [HK.out, HV.out]; rfl)
        clear HK HV
        go_wp2
        go_ret
        exact ⟨by rw [HF.out]; rfl, HB2.out⟩
      | false =>
        go_wp2
        exact ⟨⟨by simp, by first | trivial | rfl⟩, by simp [intOf]⟩
    · cases v1 with
      | true =>
        have HF : Hid (kn = 1) := Lib.hid (by rw [HK.out, HV.out]; rfl)
        clear HK HV
        go_wp2
        go_ret
        exact ⟨by rw [HF.out]; rfl, HB2.out⟩
      | false =>
        go_wp2
        exact ⟨⟨by simp, by first | trivial | rfl⟩, by simp [intOf]⟩
    · cases v2 with
      | true =>
        have HF : Hid (kn = 2) := Lib.hid (by rw [HK.out, HV.out]; rfl)
        clear HK HV
        go_wp2
        go_ret
        exact ⟨by rw [HF.out]; rfl, HB2.out⟩
      | false =>
        go_wp2
        exact ⟨⟨by simp, by first | trivial | rfl⟩, by simp [intOf]⟩
    · cases v3 with
      | true =>
        have HF : Hid (kn = 3) := Lib.hid (by rw [HK.out, HV.out]; rfl)
        clear HK HV
        go_wp2
        go_ret
        exact ⟨by rw [HF.out]; rfl, HB2.out⟩
      | false =>
        go_wp2
        exact ⟨⟨by simp, by first | trivial | rfl⟩, by simp [intOf]⟩
    · have HF : Hid (kn = -1) := Lib.hid (by rw [HK.out, HV.out]; rfl)
      clear HK HV
      go_wp2
      go_ret
      exact ⟨by rw [HF.out]; rfl, HB2.out⟩
def smallF (f : Fa) : Bool := !(f.ki == 18) && !decide ((300 : Int) < (f.co.size : Int)) && !decide ((300 : Int) < (f.tx.size : Int))
/-- What 'few' answers. -/
def FewR (l : List Fa) (w : World) (e : Ending) (w' : World) : Prop := ∃ b, e = .returned (.bool b) ∧ (b = true → (∀ f ∈ l, f.ki ≠ 18 ∧ f.co.size ≤ 300 ∧ f.tx.size ≤ 300) ∧ l.length ≤ 30) ∧ Below w.heap.size w w'
theorem FewR.no {l : List Fa} {w w' : World} {e : Ending} (he : e = .returned (.bool false)) (hb : Below w.heap.size w w') : FewR l w e w' := ⟨false, he, fun h => by simp at h, hb⟩
theorem FewR.of {l : List Fa} {w w' : World} {e : Ending} (b : Bool) (he : e = .returned (.bool b)) (h : b = true → (∀ f ∈ l, f.ki ≠ 18 ∧ f.co.size ≤ 300 ∧ f.tx.size ≤ 300) ∧ l.length ≤ 30) (hb : Below w.heap.size w w') : FewR l w e w' := ⟨b, he, h, hb⟩
set_option maxHeartbeats 4000000 in
set_option maxRecDepth 100000 in
theorem la_few (l : List Fa) (A : Option Addr) (ca : Nat) (w : World) (hl : l.length ≤ 9223372036854775807) (hL : SlF w A l) : Calls Tryz.prog 6 #[.slice A l.length ca] w (FewR l w) := by
  have HL := Lib.hid hL
  clear hL
  go_enter Tryz.func6, Tryz.ntmps6
  go_wp2
  go_loopw [7] (fun iv wr => ∃ k : Nat, k ≤ l.length ∧ iv = .int .i64 k ∧ Hid (∀ f ∈ l.take k, f.ki ≠ 18 ∧ f.co.size ≤ 300 ∧ f.tx.size ≤ 300) ∧ Hid (Below w.heap.size w wr)) (fun iv _ => l.length - (intOf iv).toNat)
  case atStart => exact ⟨0, Nat.zero_le _, rfl, Lib.hid (by simp), Lib.hid (Below.refl _ _)⟩
  case round =>
    obtain ⟨k, hk, rfl, HS, HB⟩ := hrel
    obtain ⟨wo, hwo⟩ : ∃ x : World, x = wr := ⟨_, rfl⟩
    subst hwo
    by_cases hlt : k < l.length
    · obtain ⟨f, hx⟩ : ∃ x, l[k]? = some x := ⟨_, List.getElem?_eq_getElem hlt⟩
      obtain ⟨b, off, rfl, hbl, hat⟩ := SlF.open_ (HL.out.below HB.out) (by intro h; simp [h] at hlt)
      obtain ⟨c0, c1, c2, c3, c4, c5, c6, c7⟩ := hat k f hx
      obtain ⟨fb, hfb⟩ : ∃ z, wo.heap.size = z := ⟨_, rfl⟩
      obtain ⟨wx, hwx⟩ : ∃ z, wo.alloc (.cells (FA f) 26) = z := ⟨_, rfl⟩
      have hbx : Below wo.heap.size wo wx := by rw [← hwx]; exact bAlloc _ _
      have hkx : Bk fb 26 (FA f) wx := by rw [← hwx, ← hfb]; exact Bk.new _ _ _
      have HBX : Hid (Below w.heap.size w wx) := Lib.hid (bTrans HB.out hbx)
      have HE := Lib.hid (And.intro hfb hwx)
      unfold FA at HE
      have X2 : wx.cell? ⟨fb, 2, none⟩ = some (.int .i64 f.ki) := hkx.cell 2
      have X5 : wx.cell? ⟨fb, 5, none⟩ = some (.string f.co) := hkx.cell 5
      have X7 : wx.cell? ⟨fb, 7, none⟩ = some (.string f.tx) := hkx.cell 7
      have HST : Hid (f.ki ≠ 18 ∧ f.co.size ≤ 300 ∧ f.tx.size ≤ 300 → ∀ g ∈ l.take (k + 1), g.ki ≠ 18 ∧ g.co.size ≤ 300 ∧ g.tx.size ≤ 300) := Lib.hid fun hf g hg => by
        rw [List.take_add_one, hx, Option.toList_some, List.mem_append] at hg
        rcases hg with hg | hg
        · exact HS.out g hg
        · rw [List.mem_singleton] at hg; rw [hg]; exact hf
      have hlt2 : (k : Int) < (l.length : Int) := by omega
      clear hx hat hfb hwx hbx hkx
      go_upto_region 4 with fail
      rw [HE.out.1, HE.out.2]
      clear HE c0 c1 c2 c3 c4 c5 c6 c7
      by_cases h1 : f.ki = 18
      · have h1q : (f.ki == 18) = true := beq_iff_eq.2 h1
        go_wp2
        go_ret
        exact FewR.no rfl HBX.out
      · have h1q : (f.ki == 18) = false := beq_eq_false_iff_ne.2 h1
        by_cases h2 : (300 : Int) < (f.co.size : Int)
        · go_wp2
          go_ret
          exact FewR.no rfl HBX.out
        · by_cases h3 : (300 : Int) < (f.tx.size : Int)
          · go_wp2
            go_ret
            exact FewR.no rfl HBX.out
          · have HS2 := Lib.hid (HST.out ⟨h1, by omega, by omega⟩)
            clear HST
            go_wp2
            exact ⟨⟨k + 1, by omega, by go_num, HS2, HBX⟩, by simp [intOf]; omega⟩
    · obtain rfl : k = l.length := by omega
      have HF : Hid (∀ f ∈ l, f.ki ≠ 18 ∧ f.co.size ≤ 300 ∧ f.tx.size ≤ 300) := Lib.hid (by have h := HS.out; rwa [List.take_length] at h)
      clear hlt HS
      by_cases h30 : (l.length : Int) ≤ 30
      · have HN : Hid (l.length ≤ 30) := Lib.hid (by omega)
        go_wp2
        go_ret
        exact FewR.of true rfl (fun _ => ⟨HF.out, HN.out⟩) HB.out
      · go_wp2
        go_ret
        exact FewR.no rfl HB.out
end Go.Proofs.YtmngghglcgmkeaaGreatDoor

namespace Go.Proofs.YtmngghglcgmkeaaGreatDoor
open Go.RowKit Go.Sort

def encTo (x : Ab) : List Value := [.int .i64 x.nn, .int .i64 x.fr, .int .i64 x.to, .int .i64 x.ki, .int .i64 x.pa]
theorem encTo_len (x : Ab) : (encTo x).length = 5 := rfl
theorem encTo_one (x : Ab) : ∀ u ∈ encTo x, u.oneCell' = true := by
  intro u hu
  simp [encTo] at hu
  rcases hu with rfl | rfl | rfl | rfl | rfl <;> rfl
abbrev OwnTo (B : Nat) (v : Value) (l : List Ab) (w : World) : Prop := Own encTo 5 78 B v l w
theorem toInfo : (Tryz.prog.info? 78).map (fun i => (i.zero, i.size, i.bytes)) = some (some (.agg #[.int .i64 0, .int .i64 0, .int .i64 0, .int .i64 0, .int .i64 0]), 5, 40) := by kernel_rfl
theorem fm_congr {α β : Type} {f g : α → Option β} : ∀ l : List α, (∀ x ∈ l, f x = g x) → l.filterMap f = l.filterMap g
  | [], _ => rfl
  | a :: l, h => by rw [List.filterMap_cons, List.filterMap_cons, h a List.mem_cons_self, fm_congr l fun x hx => h x (List.mem_cons_of_mem _ hx)]
def toOne (pe : Int) (i : Nat) (f : Fa) : Option Ab := if f.ki = 7 ∧ f.pe = pe then some ⟨f.fr, f.to, kiN f.co, f.nu, (i : Int) + 1⟩ else none
/-- A person's absences among facts, as the document has them. -/
def toMs (pe : Int) (T : List Fa) : List Ab := (List.range T.length).filterMap fun i => match T[i]? with
  | some f => toOne pe i f
  | none => none
theorem toMs_snoc (pe : Int) (T : List Fa) (f : Fa) : toMs pe (T ++ [f]) = toMs pe T ++ (if f.ki = 7 ∧ f.pe = pe then [⟨f.fr, f.to, kiN f.co, f.nu, ((T ++ [f]).length : Int)⟩] else []) := by
  unfold toMs
  rw [List.length_append, List.length_singleton, List.range_succ, List.filterMap_append]
  congr 1
  · refine fm_congr _ fun i hi => ?_
    rw [List.getElem?_append_left (List.mem_range.1 hi)]
  · have e : (T ++ [f])[T.length]? = some f := by rw [List.getElem?_append_right (Nat.le_refl _), Nat.sub_self]; rfl
    rw [List.filterMap_cons, e]
    unfold toOne
    by_cases h : f.ki = 7 ∧ f.pe = pe
    · simp [h]
    · simp [h]
theorem toMs_len (pe : Int) (T : List Fa) : (toMs pe T).length ≤ T.length := by
  unfold toMs
  have := List.length_filterMap_le (fun i => match T[i]? with
    | some f => toOne pe i f
    | none => none) (List.range T.length)
  rwa [List.length_range] at this
theorem bkB {g : Nat} {t : TypeId} {cs : Array Value} {w w' : World} (h : Bk g t cs w) (hb : Below w.heap.size w w') : Bk g t cs w' := (hb.block g h.lt).trans h
theorem bk_own {α : Type} {enc : α → List Value} {k B g : Nat} {e t : TypeId} {v : Value} {l : List α} {cs : Array Value} {w : World} (ho : Own enc k e B v l w) (hk : Bk g t cs w) (hne : e ≠ t) : v.ownBlock ≠ some g := fun hv => by
  rcases ho.2 with ⟨h1, _⟩ | ⟨g', cap, cur, h1, _, h2, _⟩
  · rw [h1] at hv; cases hv
  · rw [h1] at hv
    injection hv with hv
    have hv : g' = g := hv
    rw [hv] at h2
    unfold Bk at hk
    rw [h2] at hk
    injection hk with hk
    injection hk with _ hk
    exact hne hk
theorem own_ge {α : Type} {enc : α → List Value} {k B g : Nat} {e : TypeId} {v : Value} {l : List α} {w : World} (ho : Own enc k e B v l w) (hv : v.ownBlock = some g) : B ≤ g ∧ g < w.heap.size := by
  rcases ho.2 with ⟨h1, _⟩ | ⟨g', cap, cur, h1, h3, h2, _⟩
  · rw [h1] at hv; cases hv
  · rw [h1] at hv
    injection hv with hv
    have hv : g' = g := hv
    rw [hv] at h2 h3
    exact ⟨h3, (Array.getElem?_eq_some_iff.1 h2).1⟩
/-- What stays while an absence is put down. -/
structure TdI (w : World) (sb rb fb : Nat) (A : Option Addr) (c : Nat) (T : List Fa) (x : Fa) (W : World) : Prop where
  size : w.heap.size ≤ W.heap.size
  below : Below w.heap.size w W
  bs : Bk sb 33 #[.slice A T.length c] W
  br : Bk rb 33 #[.slice none 0 0] W
  bf : Bk fb 26 (FA x) W
  st : SlF W A T
theorem TdI.bel {w : World} {sb rb fb : Nat} {A : Option Addr} {c : Nat} {T : List Fa} {x : Fa} {W W' : World} (h : TdI w sb rb fb A c T x W) (hb : Below W.heap.size W W') : TdI w sb rb fb A c T x W' :=
  ⟨Nat.le_trans h.size hb.size, h.below.trans (hb.mono h.size), bkB h.bs hb, bkB h.br hb, bkB h.bf hb, h.st.below hb⟩
theorem TdI.app {w : World} {sb rb fb : Nat} {A : Option Addr} {c : Nat} {T : List Fa} {x : Fa} {W W' : World} {v : Value} {l : List Ab} (h : TdI w sb rb fb A c T x W) (ho : OwnTo w.heap.size v l W) (hd : ∀ b off, A = some ⟨b, off, none⟩ → v.ownBlock ≠ some b) (hg : W.grownBy W' v.ownBlock) : TdI w sb rb fb A c T x W' := by
  refine ⟨Nat.le_trans h.size hg.size, bel_own h.below h.size ho hg, h.bs.grownBy hg (fun e => bk_own ho h.bs (by decide) e.symm), h.br.grownBy hg (fun e => bk_own ho h.br (by decide) e.symm), h.bf.grownBy hg (fun e => bk_own ho h.bf (by decide) e.symm), fun hne => ?_⟩
  obtain ⟨b, off, e, hlt, hc⟩ := h.st hne
  refine ⟨b, off, e, Nat.lt_of_lt_of_le hlt hg.size, fun i x hx j u hu => ?_⟩
  have h1 := hc i x hx j u hu
  have h2 := hg.block b hlt (fun e2 => hd b off e e2.symm)
  unfold World.cell? at h1 ⊢
  simp only [h2]
  exact h1
def spGt (B : Nat) (v : Value) (l : List Ab) : Sp := ⟨fun _ w => OwnTo B v l w, fun _ _ _ h hb => own_bel h hb⟩
def spOt (B : Nat) (v : Value) (l : List Ab) : Sp := ⟨fun u w => u = v ∧ OwnTo B v l w, fun _ _ _ h hb => ⟨h.1, own_bel h.2 hb⟩⟩
def spOtE (B : Nat) (l : List Ab) (A : Option Addr) : Sp := ⟨fun u w => OwnTo B u l w ∧ ∀ b off, A = some ⟨b, off, none⟩ → u.ownBlock ≠ some b, fun _ _ _ h hb => ⟨own_bel h.1 hb, h.2⟩⟩
theorem ownT_snoc {B : Nat} {v : Value} {l : List Ab} {x : Ab} {w : World} (h : w.ownsRow B 78 5 v (l.length + 1) (rowOf encTo l ++ encTo x)) : OwnTo B v (l ++ [x]) w := by
  show w.ownsRow B _ 5 v (l ++ [x]).length _
  rw [show (l ++ [x]).length = l.length + 1 by simp, rowOf_append, rowOf_one]
  exact h
/-- The store so far, and where its rows lie. -/
def StT (sb : Nat) (mv : Value) (T : List Fa) (W : World) : Prop := ∃ A c, Bk sb 33 #[.slice A T.length c] W ∧ T.length ≤ c ∧ SlF W A T ∧ ∀ b off, A = some ⟨b, off, none⟩ → mv.ownBlock ≠ some b
/-- What 'told' answers. -/
def TolR (l : List Fa) (pe : Int) (w : World) (e : Ending) (w' : World) : Prop := (∃ A2 c2 Am cm, e = .returned (.tuple #[.agg #[.slice A2 (tellL [] l).length c2], .slice Am (toMs pe (tellL [] l)).length cm]) ∧ (tellL [] l).length ≤ c2 ∧ SlF w' A2 (tellL [] l) ∧ Sl encTo 5 w' w'.heap.size Am (toMs pe (tellL [] l))) ∧ Below w.heap.size w w'
theorem TolR.of {l : List Fa} {pe : Int} {w w' : World} {e : Ending} {T : List Fa} {M : List Ab} (A2 : Option Addr) (c2 : Nat) (Am : Option Addr) (cm : Nat) (hT : tellL [] l = T) (hM : toMs pe T = M) (he : e = .returned (.tuple #[.agg #[.slice A2 T.length c2], .slice Am M.length cm])) (hc : T.length ≤ c2) (hs : SlF w' A2 T) (hm : Sl encTo 5 w' w'.heap.size Am M) (hb : Below w.heap.size w w') : TolR l pe w e w' := by
  subst hT
  subst hM
  exact ⟨⟨A2, c2, Am, cm, he, hc, hs, hm⟩, hb⟩
set_option maxHeartbeats 4000000 in
set_option maxRecDepth 100000 in
theorem la_told18 (l : List Fa) (A : Option Addr) (ca : Nat) (pe : Int) (w : World) (hl : l.length ≤ 1000) (fl : ∀ f ∈ l, Fit f) (hL : SlF w A l) (hT : Tb w) :
    Calls Tryz.prog 9 #[.slice A l.length ca, .int .u32 pe] w (TolR l pe w) := by
  obtain ⟨rb, hrb⟩ : ∃ x, w.heap.size = x := ⟨_, rfl⟩
  obtain ⟨sb, hsb⟩ : ∃ x, rb + 1 = x := ⟨_, rfl⟩
  obtain ⟨w3, hw3⟩ : ∃ x, (w.alloc (.cells #[.slice none 0 0] 33)).alloc (.cells #[.slice none 0 0] 33) = x := ⟨_, rfl⟩
  obtain ⟨k1, k2, k3⟩ := bkk2 w _ _ _ _ hrb hsb hw3
  have HR3 : Hid (Bk rb 33 #[.slice none 0 0] w3) := Lib.hid k1
  have HV3 : Hid (StT sb (.slice none 0 0) [] w3) := Lib.hid ⟨none, 0, k2, Nat.le_refl _, fun h => absurd rfl h, fun b off h => by cases h⟩
  have HB3 := Lib.hid k3
  have HL := Lib.hid hL
  have HT := Lib.hid hT
  have HFI := Lib.hid fl
  have HRS : Hid (rb ≠ sb ∧ w.heap.size ≤ rb ∧ w.heap.size ≤ sb) := Lib.hid (by omega)
  have HE3 := Lib.hid (And.intro hrb (And.intro hsb hw3))
  clear k1 k2 k3 hL hT fl hrb hsb hw3
  go_enter Tryz.func9, Tryz.ntmps9
  go_upto_region 2 with fail
  rw [HE3.out.1, HE3.out.2.1, HE3.out.2.2]
  clear HE3
  go_wp2
  go_loopw [7, 14] (fun mv iv wr => ∃ k : Nat, k ≤ l.length ∧ iv = .int .i64 k ∧ (∃ Am cm, mv = .slice Am (toMs pe (tellL [] (l.take k))).length cm ∧ Hid (OwnTo w.heap.size (.slice Am (toMs pe (tellL [] (l.take k))).length cm) (toMs pe (tellL [] (l.take k))) wr) ∧ Hid (StT sb (.slice Am (toMs pe (tellL [] (l.take k))).length cm) (tellL [] (l.take k)) wr)) ∧ Hid (Bk rb 33 #[.slice none 0 0] wr) ∧ Hid (Below w.heap.size w wr)) (fun _ iv _ => l.length - (intOf iv).toNat)
  case atStart => exact ⟨0, Nat.zero_le _, rfl, ⟨none, 0, rfl, Lib.hid (Own.nil _), HV3⟩, HR3, HB3⟩
  case round =>
    clear HR3 HV3 HB3
    obtain ⟨k, hk, rfl, ⟨Am, cm, rfl, HM, HV⟩, HR, HB⟩ := hrel
    obtain ⟨wo, hwo⟩ : ∃ x : World, x = wr := ⟨_, rfl⟩
    subst hwo
    by_cases hlt : k < l.length
    · obtain ⟨b, off, rfl, hbl, hat⟩ := SlF.open_ (HL.out.below HB.out) (by intro h; simp [h] at hlt)
      obtain ⟨x, hx⟩ : ∃ x, l[k]? = some x := ⟨_, List.getElem?_eq_getElem hlt⟩
      obtain ⟨c0, c1, c2, c3, c4, c5, c6, c7⟩ := hat k x hx
      have HNX := Lib.hid (tellL_take (L := []) hx)
      have HFF := Lib.hid (HFI.out x (List.mem_of_getElem? hx))
      have hTl : (tellL [] (l.take k)).length ≤ 1000 := by
        have h1 := tellL_len (l.take k) []
        rw [List.length_take] at h1
        simp only [List.length_nil] at h1
        omega
      obtain ⟨T, hTT⟩ : ∃ T, tellL [] (l.take k) = T := ⟨_, rfl⟩
      rw [hTT] at HNX hTl HM HV ⊢
      have hMl := toMs_len pe T
      obtain ⟨M, hMM⟩ : ∃ M, toMs pe T = M := ⟨_, rfl⟩
      have HMM := Lib.hid hMM
      rw [hMM] at HM HV hMl ⊢
      obtain ⟨A1, c1', hv1, hv2, hv3, hv4⟩ := HV.out
      obtain ⟨fb, hfb⟩ : ∃ z, wo.heap.size = z := ⟨_, rfl⟩
      obtain ⟨wx, hwx⟩ : ∃ z, wo.alloc (.cells (FA x) 26) = z := ⟨_, rfl⟩
      have hbx : Below wo.heap.size wo wx := by rw [← hwx]; exact bAlloc _ _
      have hkx : Bk fb 26 (FA x) wx := by rw [← hwx, ← hfb]; exact Bk.new _ _ _
      have HKX := Lib.hid hkx
      have HBX : Hid (Below w.heap.size w wx) := Lib.hid (bTrans HB.out hbx)
      have HADD := Lib.hid (st_AddF T A1 c1' x wx (by omega) hv2 (hv3.below hbx) HFF.out (HT.out.below HBX.out))
      have HMX : Hid (OwnTo w.heap.size (.slice Am M.length cm) M wx) := Lib.hid (own_bel HM.out hbx)
      have HS1 : Hid (Bk sb 33 #[.slice A1 T.length c1'] wx ∧ T.length ≤ c1' ∧ SlF wx A1 T ∧ ∀ b off, A1 = some ⟨b, off, none⟩ → (Value.slice Am M.length cm).ownBlock ≠ some b) := Lib.hid ⟨bkB hv1 hbx, hv2, hv3.below hbx, hv4⟩
      have HRX : Hid (Bk rb 33 #[.slice none 0 0] wx) := Lib.hid (bkB HR.out hbx)
      have HE := Lib.hid (And.intro hfb hwx)
      have HOR := Lib.hid (addL_or T x)
      obtain ⟨N, en, hN⟩ : ∃ N en, addL T x = (N, en) := ⟨_, _, rfl⟩
      unfold addF at HADD
      rw [hN] at HADD HNX HOR
      simp only at HADD HNX
      unfold FA at HE HADD hkx
      have S0 : wx.cell? ⟨sb, 0, none⟩ = some (.slice A1 T.length c1') := HS1.out.1.cell 0
      have X0 : wx.cell? ⟨fb, 0, none⟩ = some (.int .u32 x.id) := hkx.cell 0
      have X1 : wx.cell? ⟨fb, 1, none⟩ = some (.int .u32 x.pe) := hkx.cell 1
      have X2 : wx.cell? ⟨fb, 2, none⟩ = some (.int .i64 x.ki) := hkx.cell 2
      have X3 : wx.cell? ⟨fb, 3, none⟩ = some (.int .i64 x.fr) := hkx.cell 3
      have X4 : wx.cell? ⟨fb, 4, none⟩ = some (.int .i64 x.to) := hkx.cell 4
      have X5 : wx.cell? ⟨fb, 5, none⟩ = some (.string x.co) := hkx.cell 5
      have X6 : wx.cell? ⟨fb, 6, none⟩ = some (.int .i64 x.nu) := hkx.cell 6
      have X7 : wx.cell? ⟨fb, 7, none⟩ = some (.string x.tx) := hkx.cell 7
      have hlt2 : (k : Int) < (l.length : Int) := by omega
      clear hat hx hTT hMM hfb hwx hbx hkx hN hv1 hv2 hv3 hv4 HV HM HR
      go_upto_region 6 with fail
      rw [HE.out.1, HE.out.2]
      clear HE c0 c1 c2 c3 c4 c5 c6 c7
      go_wp2_with fail
      refine HADD.out.mono ?_
      rintro e w6 ⟨⟨A2, c2, rfl, hc2, hs6, hA2⟩, hb6⟩
      obtain ⟨nb, hnb⟩ : ∃ z, w6.heap.size = z := ⟨_, rfl⟩
      obtain ⟨w7, hw7⟩ : ∃ z, w6.alloc (.cells #[.slice A2 N.length c2] 33) = z := ⟨_, rfl⟩
      have hb67 : Below w6.heap.size w6 w7 := by rw [← hw7]; exact bAlloc _ _
      have hk7 : Bk nb 33 #[.slice A2 N.length c2] w7 := by rw [← hw7, ← hnb]; exact Bk.new _ _ _
      have hb7 : Below wx.heap.size wx w7 := bTrans hb6 hb67
      have HB7 : Hid (Below w.heap.size w w7) := Lib.hid (bTrans HBX.out hb7)
      have HR7 : Hid (Bk rb 33 #[.slice none 0 0] w7) := Lib.hid (bkB HRX.out hb7)
      have HM7 : Hid (OwnTo w.heap.size (.slice Am M.length cm) M w7) := Lib.hid (own_bel HMX.out hb7)
      have HS7 : Hid (Bk sb 33 #[.slice A1 T.length c1'] w7 ∧ SlF w7 A1 T) := Lib.hid ⟨bkB HS1.out.1 hb7, HS1.out.2.2.1.below hb7⟩
      have HF7 : Hid (Bk fb 26 (FA x) w7) := Lib.hid (bkB HKX.out hb7)
      have HSN : Hid (SlF w7 A2 N ∧ N.length ≤ c2) := Lib.hid ⟨hs6.below hb67, hc2⟩
      have HDX : Hid (∀ b off, A2 = some ⟨b, off, none⟩ → (Value.slice Am M.length cm).ownBlock ≠ some b) := Lib.hid fun b' off' h1 h2 => by
        rcases hA2 with h3 | h3
        · exact HS1.out.2.2.2 b' off' (by rw [← h3]; exact h1) h2
        · have h4 := (h3 b' off' h1).2
          have h5 := (own_ge HMX.out h2).2
          omega
      have N0 : w7.cell? ⟨nb, 0, none⟩ = some (.slice A2 N.length c2) := hk7.cell 0
      have HE := Lib.hid (And.intro hnb hw7)
      clear hnb hw7 hb67 hk7 hb7 hb6 hs6 hA2 hc2 HADD S0 X0 X1 X2 X3 X4 X5 X6 X7 HMX HRX HKX
      go_upto_region 7 with fail
      rw [HE.out.1, HE.out.2]
      clear HE
      by_cases hen : en = 0
      · have HNN : Hid (N = T ++ [x]) := Lib.hid (by
          rcases HOR.out with ⟨e, h1, h2⟩ | ⟨h2, _⟩
          · injection h2 with _ h2; omega
          · injection h2)
        have S0 : w7.cell? ⟨sb, 0, none⟩ = some (.slice A1 T.length c1') := HS7.out.1.cell 0
        have S0f : w7.frozen? ⟨sb, 0, none⟩ = false := HS7.out.1.frozen 0
        obtain ⟨w8, hw8⟩ : ∃ z, w7.setCell ⟨sb, 0, none⟩ (.slice A2 N.length c2) = z := ⟨_, rfl⟩
        have hgs : w7.grownBy w8 (some sb) := by rw [← hw8]; exact gSet _ _ _
        have HTI : Hid (TdI w sb rb fb A2 c2 N x w8) := Lib.hid ⟨Nat.le_trans HB7.out.size hgs.size, by rw [← hw8]; exact HB7.out.setCell (p := ⟨sb, 0, none⟩) HRS.out.2.2 _, by rw [← hw8]; exact HS7.out.1.set_ 0 _, HR7.out.grownBy hgs (fun e => HRS.out.1 (by injection e)), HF7.out.grownBy hgs (fun e => by
          injection e with e
          have h1 := HS7.out.1
          rw [← e] at h1
          have h2 := HF7.out
          unfold Bk at h1 h2
          rw [h1] at h2
          injection h2 with h2
          injection h2 with _ h2
          exact absurd h2 (by decide)), by rw [← hw8]; exact HSN.out.1.keepRe HS7.out.1 _⟩
        have HM8 : Hid (OwnTo w.heap.size (.slice Am M.length cm) M w8) := Lib.hid (HM7.out.kept hgs (.inr (bk_own HM7.out HS7.out.1 (by decide))))
        have HE8 := Lib.hid hw8
        have HC2 : Hid (N.length ≤ c2) := Lib.hid HSN.out.2
        have HMN : Hid (toMs pe N = M ++ (if x.ki = 7 ∧ x.pe = pe then [⟨x.fr, x.to, kiN x.co, x.nu, (N.length : Int)⟩] else [])) := Lib.hid (by rw [HNN.out, toMs_snoc, HMM.out])
        subst hen
        clear hw8 hgs HSN HS7 HM7 HR7 HF7 HB7
        go_upto_region 9 with fail
        rw [HE8.out]
        clear HE8 S0 S0f N0
        have X1 : w8.cell? ⟨fb, 1, none⟩ = some (.int .u32 x.pe) := HTI.out.bf.cell 1
        have X2 : w8.cell? ⟨fb, 2, none⟩ = some (.int .i64 x.ki) := HTI.out.bf.cell 2
        by_cases h7 : x.ki = 7 ∧ x.pe = pe
        · have HMY : Hid (toMs pe N = M ++ [⟨x.fr, x.to, kiN x.co, x.nu, (N.length : Int)⟩]) := Lib.hid (by rw [HMN.out, if_pos h7])
          obtain ⟨h71, h72⟩ := h7
          have HNE : Hid (N ≠ []) := Lib.hid (by rw [HNN.out]; simp)
          have HRL : Hid (∀ W W', TdI w sb rb fb A2 c2 N x W → Below W.heap.size W W' → TdI w sb rb fb A2 c2 N x W') := Lib.hid fun _ _ h hb => h.bel hb
          have HRA : Hid (∀ W W', TdI w sb rb fb A2 c2 N x W → OwnTo w.heap.size (.slice Am M.length cm) M W → W.grownBy W' (Value.slice Am M.length cm).ownBlock → TdI w sb rb fb A2 c2 N x W') := Lib.hid fun _ _ h ho hg => h.app ho HDX.out hg
          have HAX : Hid (∀ W (v' : Value), TdI w sb rb fb A2 c2 N x W → (v'.ownBlock = (Value.slice Am M.length cm).ownBlock ∨ v'.ownBlock = some W.heap.size) → ∀ b off, A2 = some ⟨b, off, none⟩ → v'.ownBlock ≠ some b) := Lib.hid fun W v' h hv b' off' h1 h2 => by
            rcases hv with hv | hv
            · exact HDX.out b' off' h1 (by rw [← hv]; exact h2)
            · rw [hv] at h2
              injection h2 with h2
              obtain ⟨b3, off3, e3, hlt3, _⟩ := h.st HNE.out
              rw [h1] at e3
              injection e3 with e3
              injection e3 with e3 _ _
              omega
          have HKC : Hid (∀ W, TdI w sb rb fb A2 c2 N x W → W.cell? ⟨sb, 0, none⟩ = some (.slice A2 N.length c2) ∧ W.cell? ⟨fb, 3, none⟩ = some (.int .i64 x.fr) ∧ W.cell? ⟨fb, 4, none⟩ = some (.int .i64 x.to) ∧ W.cell? ⟨fb, 5, none⟩ = some (.string x.co) ∧ W.cell? ⟨fb, 6, none⟩ = some (.int .i64 x.nu)) := Lib.hid fun W h => ⟨h.bs.cell 0, h.bf.cell 3, h.bf.cell 4, h.bf.cell 5, h.bf.cell 6⟩
          have HLN : Hid (M.length + 1 ≤ maxLen ∧ (M.length + 1) * 40 ≤ 140737488355328) := Lib.hid (by unfold maxLen; omega)
          obtain ⟨i0, hi0, hi1, hi2, hi3⟩ := info_parts toInfo
          have HJ0 := Lib.hid hi0
          have HJ1 := Lib.hid hi1
          have HJ2 := Lib.hid hi2
          have HJ3 := Lib.hid hi3
          have HPE := Lib.hid h72
          have h71q : (x.ki == 7) = true := beq_iff_eq.2 h71
          have h72q : (x.pe == pe) = true := beq_iff_eq.2 h72
          clear hi0 hi1 hi2 hi3 h71 h72
          go_upto_region 10 with fail
          obtain ⟨w9, hw9⟩ : ∃ z : World, z = w8 := ⟨_, rfl⟩
          subst hw9
          obtain ⟨mv, hmv⟩ : ∃ mv, Value.slice Am M.length cm = mv := ⟨_, rfl⟩
          rw [hmv] at HM8 HRA HAX ⊢
          have HR0 : Hid (TdI w sb rb fb A2 c2 N x w9.drew) := Lib.hid (HTI.out.bel (bDrewN w9 1))
          have HOG : Hid (OwnTo w.heap.size mv M w9.drew) := Lib.hid (own_bel HM8.out (bDrewN w9 1))
          clear X1 X2
          refine wp_region_asgW (SPS [(12, (spGt w.heap.size mv M)), (6, Sp.val (.pointer (some ⟨sb, 0, none⟩))), (9, Sp.val (.pointer (some ⟨fb, 0, none⟩))), (36, (spOt w.heap.size mv M)), (37, Sp.val (.agg #[.slice A2 N.length c2])), (38, Sp.val (.int .i64 N.length)), (39, Sp.val (.pointer (some ⟨fb, 3, none⟩))), (40, Sp.val (.int .i64 x.fr)), (41, Sp.val (.pointer (some ⟨fb, 4, none⟩))), (42, Sp.val (.int .i64 x.to)), (43, Sp.val (.pointer (some ⟨fb, 5, none⟩))), (44, Sp.val (.string x.co)), (45, Sp.val (.int .i64 (kiN x.co))), (46, Sp.val (.pointer (some ⟨fb, 6, none⟩))), (47, Sp.val (.int .i64 x.nu)), (48, Sp.val (.agg #[.int .i64 N.length, .int .i64 x.fr, .int .i64 x.to, .int .i64 (kiN x.co), .int .i64 x.nu])), (49, (spRow w.heap.size 78 #[.int .i64 N.length, .int .i64 x.fr, .int .i64 x.to, .int .i64 (kiN x.co), .int .i64 x.nu])), (50, (spOtE w.heap.size (M ++ [⟨x.fr, x.to, kiN x.co, x.nu, (N.length : Int)⟩]) A2))]) [(12, 14), (36, 14), (49, 14)] (TdI w sb rb fb A2 c2 N x) 15 [36, 37, 38, 39, 40, 41, 42, 43, 44, 45, 46, 47, 48, 49, 50, 7] rfl (by rfl) (by kernel_rfl) (by kernel_rfl) (.assign (.tmp 50)) 7 (fun o ho => by cases ho; exact ⟨rfl, rfl, rfl⟩) (by kernel_rfl) (by rfl) ?_ ?_ (opsK_all ?_) ?_
          · exact HR0.out
          · exact sps_start (cons_all HOG.out (cons_all rfl (cons_all rfl (nil_all))))
          · refine opsK_cons (by
             exact rel_nW (rel_iniW rfl rfl (fun a W hR hini hsp => by
                have e7 : a.eval (.tmp 7) = mv := (hini 7 (by kernel_rfl)).trans (by first | rfl | (go_simp; rfl) | go_simp)
                have h12 : OwnTo w.heap.size mv M W := (hsp 12 (by kernel_rfl) (fun j hj => .inr (by rw [show j = 14 by simpa using hj]; kernel_rfl))).get rfl
                refine ⟨mv, ?_, sps rfl ⟨rfl, h12⟩⟩
                unfold execOp
                simp only [e7]
                go_simp))) ?_
            refine opsK_cons (by
             exact rel_nW (rel_sW HRL.out [12] (fun w1 hR1 => opOk_load (p := ⟨sb, 0, none⟩) rfl rfl (.inl rfl) (by kernel_rfl) (fun _ _ h => h.get rfl) (fun W hW => by
                obtain ⟨k0, k3, k4, k5, k6⟩ := HKC.out _ (HRL.out _ _ hR1 hW)
                exact ⟨.agg #[.slice A2 N.length c2], by go_simp, sps rfl rfl⟩)) (by kernel_rfl) (by rfl))) ?_
            refine opsK_cons (by
             exact rel_nW (rel_sW HRL.out [12] (fun w1 hR1 => opOk_callg (fun a => #[a.eval (.tmp 37)]) rfl rfl (.inl rfl) (fun a => by simp only [List.map_toArray, List.map_cons, List.map_nil] <;> rfl) (fun args W => by go_simp) (fun a W hW hsp => by
                have e37 : a.eval (.tmp 37) = .agg #[.slice A2 N.length c2] := (hsp 37 (by kernel_rfl)).get rfl
                simp only [e37]
                exact (st_Len A2 N.length c2 _).mono fun e w' ⟨he, hb⟩ => ⟨_, he, hb, sps rfl rfl⟩)) (by kernel_rfl) (by rfl))) ?_
            refine opsK_cons (by
             exact rel_nW (rel_sW HRL.out [12] (fun w1 hR1 => opOk_run rfl (.inl rfl) (fun a W hW hsp => by
                have e9 : a.eval (.tmp 9) = .pointer (some ⟨fb, 0, none⟩) := (hsp 9 (by kernel_rfl)).get rfl
                refine ⟨.pointer (some ⟨fb, 3, none⟩), ?_, sps rfl rfl⟩
                unfold execOp
                simp only [e9]
                go_simp)) (by kernel_rfl) (by rfl))) ?_
            refine opsK_cons (by
             exact rel_nW (rel_sW HRL.out [12] (fun w1 hR1 => opOk_load (p := ⟨fb, 3, none⟩) rfl rfl (.inl rfl) (by kernel_rfl) (fun _ _ h => h.get rfl) (fun W hW => by
                obtain ⟨k0, k3, k4, k5, k6⟩ := HKC.out _ (HRL.out _ _ hR1 hW)
                exact ⟨.int .i64 x.fr, by go_simp, sps rfl rfl⟩)) (by kernel_rfl) (by rfl))) ?_
            refine opsK_cons (by
             exact rel_nW (rel_sW HRL.out [12] (fun w1 hR1 => opOk_run rfl (.inl rfl) (fun a W hW hsp => by
                have e9 : a.eval (.tmp 9) = .pointer (some ⟨fb, 0, none⟩) := (hsp 9 (by kernel_rfl)).get rfl
                refine ⟨.pointer (some ⟨fb, 4, none⟩), ?_, sps rfl rfl⟩
                unfold execOp
                simp only [e9]
                go_simp)) (by kernel_rfl) (by rfl))) ?_
            refine opsK_cons (by
             exact rel_nW (rel_sW HRL.out [12] (fun w1 hR1 => opOk_load (p := ⟨fb, 4, none⟩) rfl rfl (.inl rfl) (by kernel_rfl) (fun _ _ h => h.get rfl) (fun W hW => by
                obtain ⟨k0, k3, k4, k5, k6⟩ := HKC.out _ (HRL.out _ _ hR1 hW)
                exact ⟨.int .i64 x.to, by go_simp, sps rfl rfl⟩)) (by kernel_rfl) (by rfl))) ?_
            refine opsK_cons (by
             exact rel_nW (rel_sW HRL.out [12] (fun w1 hR1 => opOk_run rfl (.inl rfl) (fun a W hW hsp => by
                have e9 : a.eval (.tmp 9) = .pointer (some ⟨fb, 0, none⟩) := (hsp 9 (by kernel_rfl)).get rfl
                refine ⟨.pointer (some ⟨fb, 5, none⟩), ?_, sps rfl rfl⟩
                unfold execOp
                simp only [e9]
                go_simp)) (by kernel_rfl) (by rfl))) ?_
            refine opsK_cons (by
             exact rel_nW (rel_sW HRL.out [12] (fun w1 hR1 => opOk_load (p := ⟨fb, 5, none⟩) rfl rfl (.inl rfl) (by kernel_rfl) (fun _ _ h => h.get rfl) (fun W hW => by
                obtain ⟨k0, k3, k4, k5, k6⟩ := HKC.out _ (HRL.out _ _ hR1 hW)
                exact ⟨.string x.co, by go_simp, sps rfl rfl⟩)) (by kernel_rfl) (by rfl))) ?_
            refine opsK_cons (by
             exact rel_nW (rel_sW HRL.out [12] (fun w1 hR1 => opOk_callg (fun a => #[a.eval (.tmp 44)]) rfl rfl (.inl rfl) (fun a => by simp only [List.map_toArray, List.map_cons, List.map_nil] <;> rfl) (fun args W => by go_simp) (fun a W hW hsp => by
                have e44 : a.eval (.tmp 44) = .string x.co := (hsp 44 (by kernel_rfl)).get rfl
                simp only [e44]
                exact (r18_Kind x.co _).mono fun e w' ⟨he, hb⟩ => ⟨_, he, hb, sps rfl rfl⟩)) (by kernel_rfl) (by rfl))) ?_
            refine opsK_cons (by
             exact rel_nW (rel_sW HRL.out [12] (fun w1 hR1 => opOk_run rfl (.inl rfl) (fun a W hW hsp => by
                have e9 : a.eval (.tmp 9) = .pointer (some ⟨fb, 0, none⟩) := (hsp 9 (by kernel_rfl)).get rfl
                refine ⟨.pointer (some ⟨fb, 6, none⟩), ?_, sps rfl rfl⟩
                unfold execOp
                simp only [e9]
                go_simp)) (by kernel_rfl) (by rfl))) ?_
            refine opsK_cons (by
             exact rel_nW (rel_sW HRL.out [12] (fun w1 hR1 => opOk_load (p := ⟨fb, 6, none⟩) rfl rfl (.inl rfl) (by kernel_rfl) (fun _ _ h => h.get rfl) (fun W hW => by
                obtain ⟨k0, k3, k4, k5, k6⟩ := HKC.out _ (HRL.out _ _ hR1 hW)
                exact ⟨.int .i64 x.nu, by go_simp, sps rfl rfl⟩)) (by kernel_rfl) (by rfl))) ?_
            refine opsK_cons (by
             exact rel_nW (rel_sW HRL.out [12] (fun w1 hR1 => opOk_run rfl (.inl rfl) (fun a W hW hsp => by
                have f38 : a.tmps[38]?.getD undef = .int .i64 N.length := by rw [← Array.getD_eq_getD_getElem?]; exact (hsp 38 (by kernel_rfl)).get rfl
                have f40 : a.tmps[40]?.getD undef = .int .i64 x.fr := by rw [← Array.getD_eq_getD_getElem?]; exact (hsp 40 (by kernel_rfl)).get rfl
                have f42 : a.tmps[42]?.getD undef = .int .i64 x.to := by rw [← Array.getD_eq_getD_getElem?]; exact (hsp 42 (by kernel_rfl)).get rfl
                have f45 : a.tmps[45]?.getD undef = .int .i64 (kiN x.co) := by rw [← Array.getD_eq_getD_getElem?]; exact (hsp 45 (by kernel_rfl)).get rfl
                have f47 : a.tmps[47]?.getD undef = .int .i64 x.nu := by rw [← Array.getD_eq_getD_getElem?]; exact (hsp 47 (by kernel_rfl)).get rfl
                refine ⟨.agg #[.int .i64 N.length, .int .i64 x.fr, .int .i64 x.to, .int .i64 (kiN x.co), .int .i64 x.nu], ?_, sps rfl rfl⟩
                unfold execOp
                go_simp)) (by kernel_rfl) (by rfl))) ?_
            refine opsK_cons (by
             exact rel_nW (rel_sW HRL.out [12] (fun w1 hR1 => opOk_new rfl (.inl rfl) (fun a W hW hsp => by
                have e48 : a.eval (.tmp 48) = .agg #[.int .i64 N.length, .int .i64 x.fr, .int .i64 x.to, .int .i64 (kiN x.co), .int .i64 x.nu] := (hsp 48 (by kernel_rfl)).get rfl
                refine ⟨_, .cells #[.int .i64 N.length, .int .i64 x.fr, .int .i64 x.to, .int .i64 (kiN x.co), .int .i64 x.nu] 78, ?_, sps rfl ⟨W.heap.size, rfl, (HRL.out _ _ hR1 hW).size, Bk.new W _ _⟩⟩
                unfold execOp
                simp only [List.map_toArray, List.map_cons, List.map_nil, e48]
                go_simp)) (by kernel_rfl) (by rfl))) ?_
            refine opsK_cons (by
             exact rel_nW (rel_appW rfl rfl (cons_all (.inr (.inr (.head _))) (cons_all (.inl (Sp.pure_valW _)) (cons_all (.inl (Sp.pure_valW _)) (cons_all (.inr (.inr (.tail _ (.head _)))) (cons_all (.inl (Sp.pure_valW _)) (cons_all (.inl (Sp.pure_valW _)) (cons_all (.inl (Sp.pure_valW _)) (cons_all (.inl (Sp.pure_valW _)) (cons_all (.inl (Sp.pure_valW _)) (cons_all (.inl (Sp.pure_valW _)) (cons_all (.inl (Sp.pure_valW _)) (cons_all (.inl (Sp.pure_valW _)) (cons_all (.inl (Sp.pure_valW _)) (cons_all (.inl (Sp.pure_valW _)) (cons_all (.inl (Sp.pure_valW _)) (cons_all (.inl (Sp.pure_valW _)) (cons_all (.inr (.inr (.tail _ (.tail _ (.head _))))) (cons_all (.inr (.inl rfl)) (nil_all))))))))))))))))))) (fun a W hR hsp => by
                obtain ⟨e36, ho36⟩ := (hsp 36 (by kernel_rfl) (fun j hj => .inl (by simpa using hj))).get rfl
                obtain ⟨b49, e49, hb49, hk49⟩ := (hsp 49 (by kernel_rfl) (fun j hj => .inl (by simpa using hj))).get rfl
                refine wp_append_at (.tmp 36) (.tmp 49) 34 rfl w.heap.size 78 i0 _ 5 40 Tryz.underlying34 HJ0.out HJ1.out HJ2.out HJ3.out rfl (by decide) _ _ _ e36 ho36 ⟨b49, 0, none⟩ 1 1 (encTo ⟨x.fr, x.to, kiN x.co, x.nu, (N.length : Int)⟩) e49 rfl (news5 hk49) (encTo_one _) (HLN.out.1) (HLN.out.2) hR.size ?_
                intro v' W' hown' hgr hat
                exact ⟨v', rfl, HRA.out _ _ hR ho36 hgr, sps rfl ⟨ownT_snoc hown', HAX.out _ _ hR hat⟩⟩))) ?_
            refine opsK_cons (by
             exact rel_lW) ?_
            exact opsK_nil
          · intro oL hoL hdL vs W hR hsp hini
            have z50 := (hsp 50 (by decide) (by simp)).get rfl
            have HEND := Lib.hid (And.intro hR z50)
            clear hR hsp hini
            obtain ⟨A9, c9, e9, _, _⟩ := own_sl encTo_len z50.1
            clear z50
            refine wp_assign_end hoL ?_
            rw [hdL]
            simp only [putAll]
            go_simp
            try rw [e9] at HEND
            try simp only [e9]
            go_step
            go_wp2
            exact ⟨⟨k + 1, by omega, by go_num, by
              rw [HNX.out, HMY.out]
              have hll : (M ++ [(⟨x.fr, x.to, kiN x.co, x.nu, (N.length : Int)⟩ : Ab)]).length = M.length + 1 := by simp
              have h1 := HEND.out.2.1
              have h2 := HEND.out.2.2
              simp only [hll] at h1 h2 ⊢
              exact ⟨A9, c9, rfl, Lib.hid h1, Lib.hid ⟨A2, c2, HEND.out.1.bs, HC2.out, HEND.out.1.st, h2⟩⟩, Lib.hid HEND.out.1.br, Lib.hid HEND.out.1.below⟩, by simp [intOf]; omega⟩
        · have HMZ : Hid (toMs pe N = M) := Lib.hid (by rw [HMN.out, if_neg h7, List.append_nil])
          have HFI2 : Hid (StT sb (.slice Am M.length cm) N w8) := Lib.hid ⟨A2, c2, HTI.out.bs, HC2.out, HTI.out.st, HDX.out⟩
          have HBR : Hid (Bk rb 33 #[.slice none 0 0] w8) := Lib.hid HTI.out.br
          have HBW : Hid (Below w.heap.size w w8) := Lib.hid HTI.out.below
          by_cases h71 : x.ki = 7
          · have h71q : (x.ki == 7) = true := beq_iff_eq.2 h71
            have h72q : (x.pe == pe) = false := beq_eq_false_iff_ne.2 (fun e => h7 ⟨h71, e⟩)
            clear h7 h71
            go_wp2
            exact ⟨⟨k + 1, by omega, by go_num, by
              rw [HNX.out, HMZ.out]
              exact ⟨Am, cm, rfl, HM8, HFI2⟩, HBR, HBW⟩, by simp [intOf]; omega⟩
          · have h71q : (x.ki == 7) = false := beq_eq_false_iff_ne.2 h71
            clear h7 h71
            go_wp2
            exact ⟨⟨k + 1, by omega, by go_num, by
              rw [HNX.out, HMZ.out]
              exact ⟨Am, cm, rfl, HM8, HFI2⟩, HBR, HBW⟩, by simp [intOf]; omega⟩
      · have HNT : Hid (N = T) := Lib.hid (by
          rcases HOR.out with ⟨e, h1, h2⟩ | ⟨h2, _⟩
          · injection h2
          · injection h2 with _ h2; exact absurd h2 hen)
        have henq : (en != 0) = true := bne_iff_ne.2 hen
        have henq2 : (en == 0) = false := beq_eq_false_iff_ne.2 hen
        have HFI2 : Hid (StT sb (.slice Am M.length cm) T w7) := Lib.hid ⟨A1, c1', HS7.out.1, HS1.out.2.1, HS7.out.2, HS1.out.2.2.2⟩
        go_wp2
        exact ⟨⟨k + 1, by omega, by go_num, by
          rw [HNX.out, HNT.out, HMM.out]
          exact ⟨Am, cm, rfl, HM7, HFI2⟩, HR7, HB7⟩, by simp [intOf]; omega⟩
    · obtain rfl : k = l.length := by omega
      rw [List.take_length] at HM HV ⊢
      obtain ⟨T, hTT⟩ : ∃ T, tellL [] l = T := ⟨_, rfl⟩
      rw [hTT] at HM HV ⊢
      obtain ⟨M, hMM⟩ : ∃ M, toMs pe T = M := ⟨_, rfl⟩
      rw [hMM] at HM HV ⊢
      have HTE := Lib.hid (And.intro hTT hMM)
      obtain ⟨A1, c1, hv1, hv2, hv3, _⟩ := HV.out
      have S0 : wo.cell? ⟨sb, 0, none⟩ = some (.slice A1 T.length c1) := hv1.cell 0
      have R0 : wo.cell? ⟨rb, 0, none⟩ = some (.slice none 0 0) := HR.out.cell 0
      have G0 : wo.frozen? ⟨rb, 0, none⟩ = false := HR.out.frozen 0
      have HFN : Hid (T.length ≤ c1 ∧ SlF (wo.setCell ⟨rb, 0, none⟩ (.slice A1 T.length c1)) A1 T ∧ Sl encTo 5 (wo.setCell ⟨rb, 0, none⟩ (.slice A1 T.length c1)) (wo.setCell ⟨rb, 0, none⟩ (.slice A1 T.length c1)).heap.size Am M ∧ Below w.heap.size w (wo.setCell ⟨rb, 0, none⟩ (.slice A1 T.length c1)) ∧ (wo.setCell ⟨rb, 0, none⟩ (.slice A1 T.length c1)).cell? ⟨rb, 0, none⟩ = some (.slice A1 T.length c1)) := Lib.hid (by
        have hgs : wo.grownBy (wo.setCell ⟨rb, 0, none⟩ (.slice A1 T.length c1)) (some rb) := gSet _ _ _
        have ho := HM.out.kept hgs (.inr (bk_own HM.out HR.out (by decide)))
        obtain ⟨Am2, cm2, em, _, hsm⟩ := own_sl encTo_len ho
        injection em with em _ _
        rw [em]
        exact ⟨hv2, hv3.keepRe HR.out _, hsm, HB.out.setCell (p := ⟨rb, 0, none⟩) HRS.out.2.1 _, (HR.out.set_ 0 _).cell 0⟩)
      clear hlt hTT hMM hv1 hv2 hv3 HV HM HR HB
      go_wp2
      obtain ⟨wz, hwz⟩ : ∃ z, wo.setCell ⟨rb, 0, none⟩ (.slice A1 T.length c1) = z := ⟨_, rfl⟩
      rw [hwz] at HFN ⊢
      clear hwz S0 R0 G0
      obtain ⟨f1, f2, f3, f4, z0⟩ := HFN.out
      exact bodyPost_ret (v := .tuple #[.agg #[.slice A1 T.length c1], .slice Am M.length cm]) (by simp [results, Tryz.results9, go_sem, z0]) rfl (TolR.of A1 c1 Am cm HTE.out.1 HTE.out.2 rfl f1 f2 f3 f4)
end Go.Proofs.YtmngghglcgmkeaaGreatDoor

namespace Go.Proofs.YtmngghglcgmkeaaGreatDoor
open Go.RowKit Go.Sort

inductive ChT : Int → List (Int × Int × Int) → Int → Prop
  | nil (F : Int) : ChT F [] F
  | cons {F b e j : Int} {P : List (Int × Int × Int)} : F < b → ChT b P e → ChT F ((F, b, j) :: P) e
theorem ChT.snoc {F e b j : Int} {P : List (Int × Int × Int)} (h : ChT F P e) (h1 : e < b) : ChT F (P ++ [(e, b, j)]) b := by
  induction h with
  | nil F => exact .cons h1 (.nil _)
  | cons g1 _ ih => exact .cons g1 (ih h1)
theorem ChT.le {F e : Int} {P : List (Int × Int × Int)} (h : ChT F P e) : F ≤ e := by
  induction h with
  | nil F => exact Int.le_refl _
  | cons g1 _ ih => omega
theorem strK_ch {X : List Kn} {F T : Int} : ∀ (C : List Int) {c : Int} {s : SS}, ChT F s.2.2 s.1 → s.1 ≤ c → C.Pairwise (· < ·) → (∀ d ∈ C, c < d ∧ d < T) → c < T → ChT F (C.foldl (strS X) s).2.2 (C.foldl (strS X) s).1 ∧ (C.foldl (strS X) s).1 < T
  | [], c, s, h, h1, _, _, hT => ⟨h, by show s.1 < T; omega⟩
  | d :: C, c, s, h, h1, hp, hm, hT => by
    rw [List.pairwise_cons] at hp
    have hd := hm d List.mem_cons_self
    rw [List.foldl_cons]
    have hC : ∀ y ∈ C, d < y ∧ y < T := fun y hy => ⟨hp.1 y hy, (hm y (List.mem_cons_of_mem _ hy)).2⟩
    unfold strS
    split
    · exact strK_ch C h (by omega) hp.2 hC hd.2
    · exact strK_ch C (s := (d, plc X d X.length, s.2.2 ++ [(s.1, d, s.2.1)])) (h.snoc (by omega)) (Int.le_refl _) hp.2 hC hd.2
theorem strL_ch {X : List Kn} {F T : Int} (h : F < T) : ChT F (strL X F T) T := by
  unfold strL strK
  rw [if_neg (by omega)]
  have hk := strK_ch (X := X) (F := F) (T := T) (cutsL X F T) (c := F) (s := (F, plc X F X.length, [])) (.nil F) (Int.le_refl _) (sorted_foldU _ _ .nil) (fun d hd => mem_cuts hd) h
  exact hk.1.snoc hk.2
/-- Absences that rise, none within another one. -/
def riseA (U : Int) : Int → List Ab → Prop
  | e, [] => e ≤ U
  | e, x :: l => e ≤ x.fr ∧ x.fr < x.to ∧ riseA U x.to l
theorem riseA.weak {U : Int} : ∀ {l : List Ab} {e f : Int}, riseA U e l → f ≤ e → riseA U f l
  | [], e, f, h, hf => by unfold riseA at h ⊢; omega
  | x :: l, e, f, h, hf => by
    unfold riseA at h ⊢
    exact ⟨by omega, h.2⟩
theorem ChT.rise {X : List Kn} {F U : Int} {P : List (Int × Int × Int)} (h : ChT F P U) : riseA U F ((P.filter fun p => decide (0 ≤ p.2.2)).map (abOf X)) := by
  induction h with
  | nil F => exact Int.le_refl _
  | @cons F b e j P h1 h2 ih =>
    rw [List.filter_cons]
    by_cases hj : 0 ≤ j
    · simp only [hj, decide_true, if_true, List.map_cons]
      exact ⟨Int.le_refl _, h1, ih⟩
    · simp only [hj, decide_false, Bool.false_eq_true, if_false]
      exact ih.weak (by omega)
theorem absX_rise (X : List Kn) {F U : Int} (h : F ≤ U) : riseA U F (absX X F U) := by
  by_cases hlt : F < U
  · exact (strL_ch hlt).rise
  · unfold absX strQ strL
    rw [if_pos (by omega)]
    exact h
theorem riseA.at_ {U : Int} : ∀ {l : List Ab} {e : Int} {i : Nat} {x : Ab}, riseA U e l → l[i]? = some x → e ≤ x.fr ∧ x.fr < x.to ∧ x.to ≤ U
  | [], _, _, _, _, h => by simp at h
  | y :: l, e, 0, x, h, hx => by
    simp at hx
    subst hx
    refine ⟨h.1, h.2.1, ?_⟩
    have hle : ∀ (l : List Ab) (e : Int), riseA U e l → e ≤ U := by
      intro l
      induction l with
      | nil => intro e h; exact h
      | cons z l ih => intro e h; have := ih _ h.2.2; have h1 := h.1; have h2 := h.2.1; omega
    exact hle _ _ h.2.2
  | y :: l, e, i + 1, x, h, hx => by
    have := riseA.at_ (i := i) h.2.2 (by simpa using hx)
    have h1 := h.1
    have h2 := h.2.1
    omega
theorem riseA.prev {U : Int} : ∀ (l : List Ab) {e : Int} {i j : Nat} {x y : Ab}, riseA U e l → i < j → l[i]? = some x → l[j]? = some y → x.to ≤ y.fr := by
  intro l
  induction l with
  | nil => intro e i j x y _ _ h; simp at h
  | cons z l ih =>
    intro e i j x y h hij hx hy
    obtain ⟨j', rfl⟩ : ∃ j', j = j' + 1 := ⟨j - 1, by omega⟩
    rw [List.getElem?_cons_succ] at hy
    cases i with
    | zero =>
      simp at hx
      subst hx
      exact (riseA.at_ h.2.2 hy).1
    | succ i =>
      rw [List.getElem?_cons_succ] at hx
      exact ih h.2.2 (by omega) hx hy
theorem one_away {U e : Int} {l : List Ab} (h : riseA U e l) {k1 k2 d : Int} (h1 : awayB l k1 d = true) (h2 : awayB l k2 d = true) : k1 = k2 := by
  unfold awayB at h1 h2
  rw [List.any_eq_true] at h1 h2
  obtain ⟨x, hx, hx2⟩ := h1
  obtain ⟨y, hy, hy2⟩ := h2
  simp at hx2 hy2
  obtain ⟨i, hi⟩ := List.mem_iff_getElem?.1 hx
  obtain ⟨j, hj⟩ := List.mem_iff_getElem?.1 hy
  rcases Nat.lt_trichotomy i j with hij | hij | hij
  · have := riseA.prev l h hij hi hj; omega
  · subst hij
    rw [hi] at hj
    injection hj with hj
    subst hj
    rw [← hx2.1.1, ← hy2.1.1]
  · have := riseA.prev l h hij hj hi; omega
theorem SU_mono {f g : Int → Int} (h : ∀ d, f d ≤ g d) (a b : Int) : SU f a b ≤ SU g a b := by
  unfold SU
  generalize (b - a).toNat = n
  induction n with
  | zero => exact Int.le_refl _
  | succ n ih => rw [sumD, sumD]; have := h (a + n); omega
theorem SU_add (f g : Int → Int) (a b : Int) : SU (fun d => f d + g d) a b = SU f a b + SU g a b := by
  unfold SU
  generalize (b - a).toNat = n
  induction n with
  | zero => rfl
  | succ n ih => rw [sumD, sumD, sumD, ih]; omega
theorem SU_mul (c : Int) (f : Int → Int) (a b : Int) : SU (fun d => f d * c) a b = SU f a b * c := by
  unfold SU
  generalize (b - a).toNat = n
  induction n with
  | zero => simp [sumD]
  | succ n ih => rw [sumD, sumD, ih, Int.add_mul]
theorem gMin_bd (h : Nat → Int) (D : List Int) (d : Int) : 0 ≤ gMin h D d ∧ gMin h D d ≤ 1440 := by
  unfold gMin inCal okP2
  by_cases hc : chkP h D = 0
  · have := onV_bd (chkP_ok hc).1 D d
    split <;> omega
  · simp [hc]
theorem gDay_ge (h : Nat → Int) (D : List Int) (d : Int) : gMin h D d ≤ gDay h D d * 1440 ∧ 0 ≤ gDay h D d ∧ gDay h D d ≤ 1 := by
  unfold gMin gDay inCal okP2 oneD
  by_cases hc : chkP h D = 0
  · have := onV_bd (chkP_ok hc).1 D d
    split
    · split <;> omega
    · omega
  · simp [hc]
/-- The minutes of the first kinds. -/
def allKs (l : List Ab) (g : Int → Int) (F U : Int) : Nat → Int
  | 0 => 0
  | k + 1 => allKs l g F U k + SU (fSum l k g) F U
theorem fSum_bd {l : List Ab} {g : Int → Int} (hg : ∀ d, 0 ≤ g d) (k d : Int) : 0 ≤ fSum l k g d ∧ fSum l k g d ≤ g d := by
  unfold fSum
  have := hg d
  split <;> omega
theorem cuts_all {U e : Int} {l : List Ab} (h : riseA U e l) {g : Int → Int} (hg : ∀ d, 0 ≤ g d) (F V : Int) : allKs l g F V 4 ≤ SU g F V := by
  show ((0 + SU (fSum l (0 : Nat) g) F V) + SU (fSum l (1 : Nat) g) F V) + SU (fSum l (2 : Nat) g) F V + SU (fSum l (3 : Nat) g) F V ≤ _
  rw [Int.zero_add, ← SU_add, ← SU_add, ← SU_add]
  refine SU_mono (fun d => ?_) F V
  have hgd := hg d
  unfold fSum
  by_cases h0 : awayB l ((0 : Nat) : Int) d = true <;> by_cases h1 : awayB l ((1 : Nat) : Int) d = true <;> by_cases h2 : awayB l ((2 : Nat) : Int) d = true <;> by_cases h3 : awayB l ((3 : Nat) : Int) d = true
  all_goals first
    | (exfalso; have := one_away h h0 h1; omega)
    | (exfalso; have := one_away h h0 h2; omega)
    | (exfalso; have := one_away h h0 h3; omega)
    | (exfalso; have := one_away h h1 h2; omega)
    | (exfalso; have := one_away h h1 h3; omega)
    | (exfalso; have := one_away h h2 h3; omega)
    | ((first | rw [if_pos h0] | rw [if_neg h0]); (first | rw [if_pos h1] | rw [if_neg h1]); (first | rw [if_pos h2] | rw [if_neg h2]); (first | rw [if_pos h3] | rw [if_neg h3]); omega)
/-- What a kind's sums are. -/
structure KiL (l : List Ab) (h : Nat → Int) (D : List Int) (F a U : Int) (k : Int) : Prop where
  mi : SU (fSum l k (gMin h D)) F U = SU (fSum l k (gMin h D)) F a + SU (fSum l k (gMin h D)) a U
  da : SU (fSum l k (gDay h D)) F U = SU (fSum l k (gDay h D)) F a + SU (fSum l k (gDay h D)) a U
  nn : 0 ≤ SU (fSum l k (gMin h D)) F U
  le : SU (fSum l k (gMin h D)) F U ≤ SU (fSum l k (gDay h D)) F U * 1440
theorem ki_law (l : List Ab) (h : Nat → Int) (D : List Int) {F a U : Int} (h1 : F ≤ a) (h2 : a ≤ U) (k : Int) : KiL l h D F a U k := by
  refine ⟨SU_split _ h1 h2, SU_split _ h1 h2, ?_, ?_⟩
  · have := SU_mono (f := fun _ => 0) (g := fSum l k (gMin h D)) (fun d => (fSum_bd (fun d => (gMin_bd h D d).1) k d).1) F U
    rw [SU_zero (fun _ _ _ => rfl)] at this
    exact this
  · rw [← SU_mul]
    refine SU_mono (fun d => ?_) F U
    have hg := gDay_ge h D d
    unfold fSum
    split <;> omega
theorem SU_bd {f : Int → Int} {m : Int} (h : ∀ d, 0 ≤ f d ∧ f d ≤ m) {a b : Int} (hm : 0 ≤ m) (hab : b - a ≤ 1000000) : 0 ≤ SU f a b ∧ SU f a b ≤ m * 1000000 := by
  unfold SU
  have h1 := sumD_bd h a (b - a).toNat
  have h2 : ((b - a).toNat : Int) ≤ 1000000 := by omega
  have h3 := Int.mul_le_mul_of_nonneg_left h2 hm
  omega
end Go.Proofs.YtmngghglcgmkeaaGreatDoor
