import Derived.Test.YtlgoaohklggcdaaGreatDoorAbh
import Derived.Test.YtlgoaohklggcdaaGreatDoorImps
/- The document's example of absences. -/
namespace Go.Proofs.YtlgoaohklggcdaaGreatDoor
open Go.RowKit Go.Sort

def exS : Fa := ⟨0, 1, 7, 19786, 19791, ⟨#[115, 105, 99, 107]⟩, 0, ⟨#[]⟩⟩
def exV : Fa := ⟨0, 1, 7, 19788, 19789, ⟨#[108, 101, 97, 118, 101]⟩, 0, ⟨#[]⟩⟩
theorem fitS : Fit exS := ⟨by decide, by decide, by decide, by decide, by decide, by decide, by decide, by decide⟩
theorem fitV : Fit exV := ⟨by decide, by decide, by decide, by decide, by decide, by decide, by decide, by decide⟩
theorem exImp18 : impL [] [] 0 [exS, exV] = ([exS, exV], 0, 0) := by
  have hA : addL [] exS = ([exS], 0) := by
    unfold addL
    rw [if_neg (by decide), show chkF exS = 0 by decide, if_neg (by decide), show placeI [] exS.id = -1 by decide, if_neg (by decide), show canE [] exS = 0 by decide, if_neg (by decide)]
    rfl
  have hB : addL [exS] exV = ([exS, exV], 0) := by
    unfold addL
    rw [if_neg (by decide), show chkF exV = 0 by decide, if_neg (by decide), show placeI [exS] exV.id = -1 by decide, if_neg (by decide), show canE [exS] exV = 0 by decide, if_neg (by decide)]
    rfl
  rw [impL_add [] [] 0 exS [exV] (by decide) hA, if_neg (by decide), impL_add [] [exS] 0 exV [] (by decide) hB, if_neg (by decide)]
  unfold impL
  rfl
theorem exKA : kA [exS, exV] 1 = [(1, exS), (2, exV)] := by
  show chosen (ofPK 1 7) [exS, exV] 2 = _
  rw [chosen_succ (L := [exS, exV]) (k := 1) (f := exV) _ rfl, chosen_succ (L := [exS, exV]) (k := 0) (f := exS) _ rfl, chosen_zero]
  rw [if_neg (by decide), if_pos (by decide), if_neg (by decide), if_pos (by decide)]
  rfl
theorem kiS : kiB exS.co = (0, true) := by
  unfold kiB
  rw [beq_ls]
  exact if_pos (by decide)
theorem kiV : kiB exV.co = (1, true) := by
  unfold kiB
  rw [beq_ls, beq_ls]
  rw [if_neg (by decide), if_pos (by decide)]
theorem exStr : strL [(1, exS), (2, exV)] 19783 19814 = [(19783, 19786, -1), (19786, 19788, 0), (19788, 19789, 1), (19789, 19791, 0), (19791, 19814, -1)] := by decide
def exAb : List Ab := [⟨19786, 19788, 0, 0, 1⟩, ⟨19788, 19789, 1, 0, 2⟩, ⟨19789, 19791, 0, 0, 1⟩]
theorem exAbs : absX [(1, exS), (2, exV)] 19783 19814 = exAb := by
  unfold absX strQ
  rw [exStr]
  have h0 : abOf [(1, exS), (2, exV)] (19786, 19788, 0) = ⟨19786, 19788, 0, 0, 1⟩ := by
    unfold abOf
    rw [show coX [(1, exS), (2, exV)] 0 = exS.co from rfl, kiS]
    rfl
  have h1 : abOf [(1, exS), (2, exV)] (19788, 19789, 1) = ⟨19788, 19789, 1, 0, 2⟩ := by
    unfold abOf
    rw [show coX [(1, exS), (2, exV)] 1 = exV.co from rfl, kiV]
    rfl
  have h2 : abOf [(1, exS), (2, exV)] (19789, 19791, 0) = ⟨19789, 19791, 0, 0, 1⟩ := by
    unfold abOf
    rw [show coX [(1, exS), (2, exV)] 0 = exS.co from rfl, kiS]
    rfl
  have hf : ([(19783, 19786, -1), (19786, 19788, 0), (19788, 19789, 1), (19789, 19791, 0), (19791, 19814, -1)] : List (Int × Int × Int)).filter (fun p => decide (0 ≤ p.2.2)) = [(19786, 19788, 0), (19788, 19789, 1), (19789, 19791, 0)] := by decide
  rw [hf]
  unfold exAb
  rw [List.map_cons, List.map_cons, List.map_cons, List.map_nil, h0, h1, h2]
def exH (i : Nat) : Int := if i < 5 then 480 else 0
theorem exMin : SU (fun d => if awayB exAb 0 d = true then gMin exH [] d else 0) 19783 19814 = 1920 := by kernel_rfl
theorem exDay : SU (fun d => if awayB exAb 0 d = true then gDay exH [] d else 0) 19783 19814 = 4 := by kernel_rfl
/-- A slice of two facts, made anew. -/
theorem two_fa (f g : Fa) (w : World) : SlF (w.alloc (.cells #[.int .u32 f.id, .int .u32 f.pe, .int .i64 f.ki, .int .i64 f.fr, .int .i64 f.to, .string f.co, .int .i64 f.nu, .string f.tx, .int .u32 g.id, .int .u32 g.pe, .int .i64 g.ki, .int .i64 g.fr, .int .i64 g.to, .string g.co, .int .i64 g.nu, .string g.tx] 61)) (some ⟨w.heap.size, 0, none⟩) [f, g] := by
  intro _
  refine ⟨w.heap.size, 0, rfl, size_new _ _, fun i x hx j u hu => ?_⟩
  rw [(Bk.new w 61 _).cell, Nat.zero_add]
  have hj : j < 8 := by have := (List.getElem?_eq_some_iff.1 hu).1; rwa [encF_len] at this
  have hi : i < 2 := by have := (List.getElem?_eq_some_iff.1 hx).1; simpa using this
  have hi2 : i = 0 ∨ i = 1 := by omega
  have hj2 : j = 0 ∨ j = 1 ∨ j = 2 ∨ j = 3 ∨ j = 4 ∨ j = 5 ∨ j = 6 ∨ j = 7 := by omega
  rcases hi2 with rfl | rfl
  · cases hx
    rcases hj2 with rfl | rfl | rfl | rfl | rfl | rfl | rfl | rfl <;> exact hu
  · cases hx
    rcases hj2 with rfl | rfl | rfl | rfl | rfl | rfl | rfl | rfl <;> exact hu
set_option maxHeartbeats 4000000 in
set_option maxRecDepth 100000 in
theorem la_awake18 (w : World) (hT : Tb w) (hC : Tab w) : Calls Tryz.prog 32 #[] w fun e w' => e = .returned (.bool true) ∧ Below w.heap.size w w' := by
  obtain ⟨b1, hb1⟩ : ∃ x, w.heap.size = x := ⟨_, rfl⟩
  obtain ⟨w1, hw1⟩ : ∃ x, w.alloc (.cells #[.int .u32 0, .int .u32 1, .int .i64 7, .int .i64 19786, .int .i64 19791, .string ⟨#[115, 105, 99, 107]⟩, .int .i64 0, .string ⟨#[]⟩, .int .u32 0, .int .u32 1, .int .i64 7, .int .i64 19788, .int .i64 19789, .string ⟨#[108, 101, 97, 118, 101]⟩, .int .i64 0, .string ⟨#[]⟩] 61) = x := ⟨_, rfl⟩
  have hb01 : Below w.heap.size w w1 := by rw [← hw1]; exact bAlloc _ _
  have HB1 := Lib.hid hb01
  have HI : Hid (Calls Tryz.prog 73 #[.agg #[.slice none 0 0], .slice (some ⟨b1, 0, none⟩) 2 2] w1 fun e w' => (∃ A cap, e = .returned (.tuple #[.agg #[.slice A 2 cap], .int .i64 0, .int .i64 0]) ∧ 2 ≤ cap ∧ SlF w' A [exS, exV]) ∧ Below w1.heap.size w1 w') := Lib.hid (by
    have h := st_Import [] none 0 [exS, exV] (some ⟨b1, 0, none⟩) 2 w1 (by decide) (by decide) (fun h => absurd rfl h) (by decide) (by rw [← hw1, ← hb1]; exact two_fa exS exV w) (fun f hf => by
      rcases List.mem_cons.1 hf with rfl | hf
      · exact fitS
      · rcases List.mem_cons.1 hf with rfl | hf
        · exact fitV
        · cases hf) (hT.below hb01)
    unfold impR at h
    rw [exImp18] at h
    exact h)
  have HC1 : Hid (Tab w1) := Lib.hid (tabW hC hb01)
  have HE := Lib.hid (And.intro hb1 hw1)
  clear hb1 hw1 hb01 hT hC
  go_enter Tryz.func32, Tryz.ntmps32
  go_wp2_with fail
  rw [HE.out.1, HE.out.2]
  clear HE
  refine HI.out.mono ?_
  rintro e w2 ⟨⟨A, cap, rfl, hcap, hs2⟩, hb2⟩
  obtain ⟨sb, hsb⟩ : ∃ x, w2.heap.size = x := ⟨_, rfl⟩
  obtain ⟨w3, hw3⟩ : ∃ x, w2.alloc (.cells #[.slice A 2 cap] 96) = x := ⟨_, rfl⟩
  have hb23 : Below w2.heap.size w2 w3 := by rw [← hw3]; exact bAlloc _ _
  have HK3 : Hid (Bk sb 96 #[.slice A 2 cap] w3) := Lib.hid (by rw [← hw3, ← hsb]; exact Bk.new _ _ _)
  have HS3 : Hid (SlF w3 A [exS, exV]) := Lib.hid (hs2.below hb23)
  have HB13 : Hid (Below w1.heap.size w1 w3) := Lib.hid (bTrans hb2 hb23)
  have HAT : Hid (Calls Tryz.prog 40 #[.agg #[.slice A 2 cap], .int .i64 2] w3 fun e w' => e = .returned (.agg #[.slice A 2 2]) ∧ Below w3.heap.size w3 w') := Lib.hid (st_At [exS, exV] A cap 2 w3 (by decide) hcap)
  have HE := Lib.hid (And.intro hsb hw3)
  clear hsb hw3 hb2 hs2 hb23 HI
  go_upto_region 2 with fail
  rw [HE.out.1, HE.out.2]
  clear HE
  have S0 : w3.cell? ⟨sb, 0, none⟩ = some (.slice A 2 cap) := HK3.out.cell 0
  go_wp2_with fail
  refine HAT.out.mono ?_
  rintro e w4 ⟨rfl, hb4⟩
  have HB14 : Hid (Below w1.heap.size w1 w4) := Lib.hid (bTrans HB13.out hb4)
  have HAB : Hid (Calls Tryz.prog 39 #[.agg #[.slice A 2 2], .int .u32 1, .agg #[.int .i64 19783, .int .i64 19814]] w4 fun e w' => (∃ A' c', e = .returned (.tuple #[.slice A' 3 c', .int .i64 0]) ∧ Sl encAb 5 w' w'.heap.size A' exAb) ∧ Below w4.heap.size w4 w') := Lib.hid (by
    have h := ab_Of [exS, exV] A 2 1 19783 19814 w4 (by decide) (HS3.out.below hb4) (by decide) (by decide)
    rw [exKA] at h
    refine h.mono fun e w' ⟨h1, h2⟩ => ⟨?_, h2⟩
    rw [if_pos (by decide), exAbs] at h1
    obtain ⟨A', c', he, ho⟩ := h1
    obtain ⟨A2, c2, e2, _, h4⟩ := own_sl encAb_len ho
    injection e2 with e2 _ _
    subst e2
    exact ⟨_, c', he, h4⟩)
  clear hb4 HAT S0 HK3 HS3
  go_wp2_with fail
  refine HAB.out.mono ?_
  rintro e w5 ⟨⟨Aa, ca, rfl, hs5⟩, hb5⟩
  obtain ⟨pb, hpb⟩ : ∃ x, w5.heap.size = x := ⟨_, rfl⟩
  obtain ⟨w6, hw6⟩ : ∃ x, w5.alloc (.cells #[.int .i64 480, .int .i64 480, .int .i64 480, .int .i64 480, .int .i64 480, .int .i64 0, .int .i64 0, .slice none 0 0] 85) = x := ⟨_, rfl⟩
  have hb56 : Below w5.heap.size w5 w6 := by rw [← hw6]; exact bAlloc _ _
  have HK6 : Hid (Bk pb 85 #[.int .i64 480, .int .i64 480, .int .i64 480, .int .i64 480, .int .i64 480, .int .i64 0, .int .i64 0, .slice none 0 0] w6) := Lib.hid (by rw [← hw6, ← hpb]; exact Bk.new _ _ _)
  have HB16 : Hid (Below w1.heap.size w1 w6) := Lib.hid (bTrans HB14.out (bTrans hb5 hb56))
  have HMI : Hid (Calls Tryz.prog 34 #[.slice Aa 3 ca, .agg #[.int .i64 480, .int .i64 480, .int .i64 480, .int .i64 480, .int .i64 480, .int .i64 0, .int .i64 0, .slice none 0 0], .agg #[.int .i64 19783, .int .i64 19814], .int .i64 0] w6 fun e w' => e = .returned (.int .i64 1920) ∧ Below w6.heap.size w6 w') := Lib.hid (by
    have h := ab_Minutes exAb Aa ca exH [] none 0 19783 19814 0 w6 (by decide) (sl_bel hs5 hb56) (by decide) (fun d hd => absurd hd (List.not_mem_nil)) (fun h => absurd rfl h) (tabW HC1.out HB16.out)
    rw [exMin] at h
    exact h)
  have HDA : Hid (∀ W, Below w6.heap.size w6 W → Calls Tryz.prog 35 #[.slice Aa 3 ca, .agg #[.int .i64 480, .int .i64 480, .int .i64 480, .int .i64 480, .int .i64 480, .int .i64 0, .int .i64 0, .slice none 0 0], .agg #[.int .i64 19783, .int .i64 19814], .int .i64 0] W fun e w' => e = .returned (.int .i64 4) ∧ Below W.heap.size W w') := Lib.hid fun W hW => by
    have h := ab_Days exAb Aa ca exH [] none 0 19783 19814 0 W (by decide) (sl_bel hs5 (bTrans hb56 hW)) (by decide) (fun d hd => absurd hd (List.not_mem_nil)) (fun h => absurd rfl h) (tabW HC1.out (bTrans HB16.out hW))
    rw [exDay] at h
    exact h
  have HE := Lib.hid (And.intro hpb hw6)
  clear hpb hw6 hb5 hs5 hb56 HAB
  go_upto_region 4 with fail
  rw [HE.out.1, HE.out.2]
  clear HE
  have P0 : w6.cell? ⟨pb, 0, none⟩ = some (.int .i64 480) := HK6.out.cell 0
  have P1 : w6.cell? ⟨pb, 1, none⟩ = some (.int .i64 480) := HK6.out.cell 1
  have P2 : w6.cell? ⟨pb, 2, none⟩ = some (.int .i64 480) := HK6.out.cell 2
  have P3 : w6.cell? ⟨pb, 3, none⟩ = some (.int .i64 480) := HK6.out.cell 3
  have P4 : w6.cell? ⟨pb, 4, none⟩ = some (.int .i64 480) := HK6.out.cell 4
  have P5 : w6.cell? ⟨pb, 5, none⟩ = some (.int .i64 0) := HK6.out.cell 5
  have P6 : w6.cell? ⟨pb, 6, none⟩ = some (.int .i64 0) := HK6.out.cell 6
  have P7 : w6.cell? ⟨pb, 7, none⟩ = some (.slice none 0 0) := HK6.out.cell 7
  go_wp2_with fail
  refine HMI.out.mono ?_
  rintro e w7 ⟨rfl, hb7⟩
  have HB7 := Lib.hid hb7
  have HDA7 := Lib.hid (HDA.out _ hb7)
  clear hb7 P0 P1 P2 P3 P4 P5 P6 P7 HMI HDA
  have P0 : w7.cell? ⟨pb, 0, none⟩ = some (.int .i64 480) := bCell HB7.out (HK6.out.cell 0)
  have P1 : w7.cell? ⟨pb, 1, none⟩ = some (.int .i64 480) := bCell HB7.out (HK6.out.cell 1)
  have P2 : w7.cell? ⟨pb, 2, none⟩ = some (.int .i64 480) := bCell HB7.out (HK6.out.cell 2)
  have P3 : w7.cell? ⟨pb, 3, none⟩ = some (.int .i64 480) := bCell HB7.out (HK6.out.cell 3)
  have P4 : w7.cell? ⟨pb, 4, none⟩ = some (.int .i64 480) := bCell HB7.out (HK6.out.cell 4)
  have P5 : w7.cell? ⟨pb, 5, none⟩ = some (.int .i64 0) := bCell HB7.out (HK6.out.cell 5)
  have P6 : w7.cell? ⟨pb, 6, none⟩ = some (.int .i64 0) := bCell HB7.out (HK6.out.cell 6)
  have P7 : w7.cell? ⟨pb, 7, none⟩ = some (.slice none 0 0) := bCell HB7.out (HK6.out.cell 7)
  go_wp2_with fail
  refine HDA7.out.mono ?_
  rintro e w8 ⟨rfl, hb8⟩
  have HF := Lib.hid (bTrans HB1.out (bTrans HB16.out (bTrans HB7.out hb8)))
  clear hb8 P0 P1 P2 P3 P4 P5 P6 P7 HDA7
  go_wp2
  go_ret
  exact ⟨rfl, HF.out⟩
end Go.Proofs.YtlgoaohklggcdaaGreatDoor
