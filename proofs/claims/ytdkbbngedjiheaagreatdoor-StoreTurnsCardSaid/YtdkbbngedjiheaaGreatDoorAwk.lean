/- Merged from: Lw1 Lw2. -/
import Derived.Test.YtdkbbngedjiheaaGreatDoorChgd
import Derived.Deep.RegionHeld3
/- The document's example, walked. -/
namespace Go.Proofs.YtdkbbngedjiheaaGreatDoor
open Go.RowKit Go.Sort

def exA : Fa := ⟨0, 1, 1, 19723, 0, ⟨#[]⟩, 1, ⟨#[]⟩⟩
def exB : Fa := ⟨0, 2, 1, 19723, 0, ⟨#[]⟩, 1, ⟨#[]⟩⟩
theorem fitA : Fit exA := ⟨by decide, by decide, by decide, by decide, by decide, by decide, by decide, by decide⟩
theorem fitB : Fit exB := ⟨by decide, by decide, by decide, by decide, by decide, by decide, by decide, by decide⟩
theorem fitC : Fit (canF 1) := ⟨by decide, by decide, by decide, by decide, by decide, by decide, by decide, by decide⟩
theorem exImp : impL [] [] 0 [exA, exB] = ([exA, exB], 0, 0) := by
  have hA : addL [] exA = ([exA], 0) := by
    unfold addL
    rw [if_neg (by decide), show chkF exA = 0 by decide, if_neg (by decide), show placeI [] exA.id = -1 by decide, if_neg (by decide), show canE [] exA = 0 by decide, if_neg (by decide)]
    rfl
  have hB : addL [exA] exB = ([exA, exB], 0) := by
    unfold addL
    rw [if_neg (by decide), show chkF exB = 0 by decide, if_neg (by decide), show placeI [exA] exB.id = -1 by decide, if_neg (by decide), show canE [exA] exB = 0 by decide, if_neg (by decide)]
    rfl
  rw [impL_add [] [] 0 exA [exB] (by decide) hA, if_neg (by decide), impL_add [] [exA] 0 exB [] (by decide) hB, if_neg (by decide)]
  unfold impL
  rfl
theorem exAdd : addL [exA, exB] (canF 1) = ([exA, exB, canF 1], 0) := by
  unfold addL
  rw [if_neg (by decide), show chkF (canF 1) = 0 by decide, if_neg (by decide), show placeI [exA, exB] (canF 1).id = -1 by decide, if_neg (by decide), show canE [exA, exB] (canF 1) = 0 by decide, if_neg (by decide)]
  rfl
theorem exF2 : chosen (ofPK 1 1) [exA, exB] 2 = [(1, exA)] := by
  rw [chosen_succ (L := [exA, exB]) (k := 1) (f := exB) _ rfl, chosen_succ (L := [exA, exB]) (k := 0) (f := exA) _ rfl, chosen_zero]
  rw [if_neg (by decide), if_pos (by decide), if_neg (by decide), if_neg (by decide)]
  rfl
theorem exF3 : chosen (ofPK 1 1) [exA, exB, canF 1] 3 = [] := by
  rw [chosen_succ (L := [exA, exB, canF 1]) (k := 2) (f := canF 1) _ rfl, chosen_succ (L := [exA, exB, canF 1]) (k := 1) (f := exB) _ rfl, chosen_succ (L := [exA, exB, canF 1]) (k := 0) (f := exA) _ rfl, chosen_zero]
  rw [if_pos (by decide), if_neg (by decide), if_neg (by decide), if_neg (by decide), if_neg (by decide)]
  rfl
theorem exG2 : forceL [exA, exB] = [(1, exA), (2, exB)] := by
  show chosen notCancel [exA, exB] 2 = _
  rw [chosen_succ (L := [exA, exB]) (k := 1) (f := exB) _ rfl, chosen_succ (L := [exA, exB]) (k := 0) (f := exA) _ rfl, chosen_zero]
  rw [if_neg (by decide), if_pos (by decide), if_neg (by decide), if_pos (by decide)]
  rfl
theorem exG3 : forceL [exA, exB, canF 1] = [(2, exB)] := by
  show chosen notCancel [exA, exB, canF 1] 3 = _
  rw [chosen_succ (L := [exA, exB, canF 1]) (k := 2) (f := canF 1) _ rfl, chosen_succ (L := [exA, exB, canF 1]) (k := 1) (f := exB) _ rfl, chosen_succ (L := [exA, exB, canF 1]) (k := 0) (f := exA) _ rfl, chosen_zero]
  rw [if_pos (by decide), if_neg (by decide), if_pos (by decide), if_neg (by decide), if_neg (by decide)]
  rfl
theorem exCh : bothL (forceL [exA, exB]) (forceL [exA, exB, canF 1]) = [(1, exA)] := by
  rw [exG2, exG3]
  have fa : FitK (1, exA) := ⟨by decide, fitA⟩
  have fb : FitK (2, exB) := ⟨by decide, fitB⟩
  have h1 : ¬ kbs (1, exA) = kbs (2, exB) := fun h => by
    have := congrArg Prod.fst (kbs_inj fa fb h)
    revert this; decide
  have h2 : butL [(1, exA), (2, exB)] [(2, exB)] = [(1, exA)] := by
    unfold butL
    simp [h1]
  have h3 : butL [(2, exB)] [(1, exA), (2, exB)] = [] := by
    unfold butL
    simp
  unfold bothL
  rw [h2, h3]; rfl
theorem exCh2 : changedL [exA, exB] [exA, exB, canF 1] = [(1, exA)] := by
  unfold changedL
  rw [exCh]
  exact ss_one _
end Go.Proofs.YtdkbbngedjiheaaGreatDoor

/- The document's example, walked: awake() is true. -/
namespace Go.Proofs.YtdkbbngedjiheaaGreatDoor
open Go.RowKit Go.Sort

/-- A store in a variable. -/
def StV (sb : Nat) (L : List Fa) (W : World) : Prop := ∃ A cap, Bk sb 30 #[.slice A L.length cap] W ∧ L.length ≤ cap ∧ SlF W A L
/-- A slice of two facts, made anew. -/
theorem two_new (f g : Fa) (w : World) : SlF (w.alloc (.cells #[.int .u32 f.id, .int .u32 f.pe, .int .i64 f.ki, .int .i64 f.fr, .int .i64 f.to, .string f.co, .int .i64 f.nu, .string f.tx, .int .u32 g.id, .int .u32 g.pe, .int .i64 g.ki, .int .i64 g.fr, .int .i64 g.to, .string g.co, .int .i64 g.nu, .string g.tx] 26)) (some ⟨w.heap.size, 0, none⟩) [f, g] := by
  intro _
  refine ⟨w.heap.size, 0, rfl, size_new _ _, fun i x hx j u hu => ?_⟩
  rw [(Bk.new w 26 _).cell, Nat.zero_add]
  have hj : j < 8 := by have := (List.getElem?_eq_some_iff.1 hu).1; rwa [encF_len] at this
  have hi : i < 2 := by have := (List.getElem?_eq_some_iff.1 hx).1; simpa using this
  have hi2 : i = 0 ∨ i = 1 := by omega
  have hj2 : j = 0 ∨ j = 1 ∨ j = 2 ∨ j = 3 ∨ j = 4 ∨ j = 5 ∨ j = 6 ∨ j = 7 := by omega
  rcases hi2 with rfl | rfl
  · cases hx
    rcases hj2 with rfl | rfl | rfl | rfl | rfl | rfl | rfl | rfl <;> exact hu
  · cases hx
    rcases hj2 with rfl | rfl | rfl | rfl | rfl | rfl | rfl | rfl <;> exact hu
theorem StV.below {sb : Nat} {L : List Fa} {W W' : World} (h : StV sb L W) (hb : Below W.heap.size W W') : StV sb L W' := by
  obtain ⟨A, cap, h1, h2, h3⟩ := h
  exact ⟨A, cap, (hb.block sb h1.lt).trans h1, h2, h3.below hb⟩
theorem Sl.take_ {α : Type} {enc : α → List Value} {sz B : Nat} {w : World} {A : Option Addr} {L : List α} (h : Sl enc sz w B A L) (k : Nat) : Sl enc sz w B A (L.take k) := fun hl => by
  obtain ⟨b, off, e, hb, hc⟩ := h (fun h0 => hl (by rw [h0, List.take_nil]))
  refine ⟨b, off, e, hb, fun i x hx => ?_⟩
  rw [List.getElem?_take] at hx
  split at hx
  · exact hc i x hx
  · cases hx
/-- Eight cells of a fact in an own block. -/
theorem bk8 {w : World} {g : Nat} {f : Fa} (h : Bk g 26 (FA f) w) : At8 w g 0 f :=
  ⟨h.cell 0, h.cell 1, h.cell 2, h.cell 3, h.cell 4, h.cell 5, h.cell 6, h.cell 7⟩
set_option maxHeartbeats 4000000 in
set_option maxRecDepth 100000 in
theorem la_awake (w : World) (hT : Tb w) : Calls Tryz.prog 16 #[] w fun e w' => e = .returned (.bool true) ∧ Below w.heap.size w w' := by
  have HT := Lib.hid hT
  clear hT
  obtain ⟨b1, hb1⟩ : ∃ x, w.heap.size = x := ⟨_, rfl⟩
  obtain ⟨b2, hb2⟩ : ∃ x, b1 + 1 = x := ⟨_, rfl⟩
  obtain ⟨w2, hw2⟩ : ∃ x, (w.alloc (.cells #[.int .u32 0, .int .u32 1, .int .i64 1, .int .i64 19723, .int .i64 0, .string ⟨#[]⟩, .int .i64 1, .string ⟨#[]⟩] 26)).alloc (.cells #[.int .u32 0, .int .u32 2, .int .i64 1, .int .i64 19723, .int .i64 0, .string ⟨#[]⟩, .int .i64 1, .string ⟨#[]⟩] 26) = x := ⟨_, rfl⟩
  have HM := Lib.hid (bk2 w _ _ _ hb1 hb2 hw2)
  have A0 : w2.cell? ⟨b1, 0, none⟩ = some (.int .u32 0) := HM.out.1.cell 0
  have A1 : w2.cell? ⟨b1, 1, none⟩ = some (.int .u32 1) := HM.out.1.cell 1
  have A2 : w2.cell? ⟨b1, 2, none⟩ = some (.int .i64 1) := HM.out.1.cell 2
  have A3 : w2.cell? ⟨b1, 3, none⟩ = some (.int .i64 19723) := HM.out.1.cell 3
  have A4 : w2.cell? ⟨b1, 4, none⟩ = some (.int .i64 0) := HM.out.1.cell 4
  have A5 : w2.cell? ⟨b1, 5, none⟩ = some (.string ⟨#[]⟩) := HM.out.1.cell 5
  have A6 : w2.cell? ⟨b1, 6, none⟩ = some (.int .i64 1) := HM.out.1.cell 6
  have A7 : w2.cell? ⟨b1, 7, none⟩ = some (.string ⟨#[]⟩) := HM.out.1.cell 7
  have B0 : w2.cell? ⟨b2, 0, none⟩ = some (.int .u32 0) := HM.out.2.1.cell 0
  have B1 : w2.cell? ⟨b2, 1, none⟩ = some (.int .u32 2) := HM.out.2.1.cell 1
  have B2 : w2.cell? ⟨b2, 2, none⟩ = some (.int .i64 1) := HM.out.2.1.cell 2
  have B3 : w2.cell? ⟨b2, 3, none⟩ = some (.int .i64 19723) := HM.out.2.1.cell 3
  have B4 : w2.cell? ⟨b2, 4, none⟩ = some (.int .i64 0) := HM.out.2.1.cell 4
  have B5 : w2.cell? ⟨b2, 5, none⟩ = some (.string ⟨#[]⟩) := HM.out.2.1.cell 5
  have B6 : w2.cell? ⟨b2, 6, none⟩ = some (.int .i64 1) := HM.out.2.1.cell 6
  have B7 : w2.cell? ⟨b2, 7, none⟩ = some (.string ⟨#[]⟩) := HM.out.2.1.cell 7
  obtain ⟨b3, hb3⟩ : ∃ x, w2.heap.size = x := ⟨_, rfl⟩
  obtain ⟨w3, hw3⟩ : ∃ x, w2.alloc (.cells #[.int .u32 0, .int .u32 1, .int .i64 1, .int .i64 19723, .int .i64 0, .string ⟨#[]⟩, .int .i64 1, .string ⟨#[]⟩, .int .u32 0, .int .u32 2, .int .i64 1, .int .i64 19723, .int .i64 0, .string ⟨#[]⟩, .int .i64 1, .string ⟨#[]⟩] 26) = x := ⟨_, rfl⟩
  have HB3 : Hid (Below w.heap.size w w3) := Lib.hid (by rw [← hw3]; exact bTrans HM.out.2.2 (bAlloc _ _))
  have HI : Hid (Calls Tryz.prog 45 #[.agg #[.slice none 0 0], .slice (some ⟨b3, 0, none⟩) 2 2] w3 fun e w' => (∃ A cap, e = .returned (.tuple #[.agg #[.slice A 2 cap], .int .i64 0, .int .i64 0]) ∧ 2 ≤ cap ∧ SlF w' A [exA, exB]) ∧ Below w3.heap.size w3 w') := Lib.hid (by
    have h := st_Import [] none 0 [exA, exB] (some ⟨b3, 0, none⟩) 2 w3 (by decide) (by decide) (fun h => absurd rfl h) (by decide) (by rw [← hw3, ← hb3]; exact two_new exA exB w2) (fun f hf => by
      rcases List.mem_cons.1 hf with rfl | hf
      · exact fitA
      · rcases List.mem_cons.1 hf with rfl | hf
        · exact fitB
        · cases hf) (HT.out.below HB3.out)
    unfold impR at h
    rw [exImp] at h
    exact h)
  have HW2 := Lib.hid hw2
  have HW3 := Lib.hid hw3
  have HB1 := Lib.hid (And.intro hb1 hb2)
  have HB3e := Lib.hid hb3
  clear hw2 hw3 hb1 hb2 hb3
  go_enter Tryz.func16, Tryz.ntmps16
  go_upto_region 3 with fail
  rw [HB1.out.1, HB1.out.2, HW2.out]
  go_wp2_with fail
  rw [HB3e.out, HW3.out]
  refine HI.out.mono ?_
  rintro e w4 ⟨⟨A, cap, rfl, hcap, hs4⟩, hb4⟩
  obtain ⟨c, hc⟩ : ∃ x, w4.heap.size = x := ⟨_, rfl⟩
  obtain ⟨w5, hw5⟩ : ∃ x, w4.alloc (.cells #[.slice A 2 cap] 30) = x := ⟨_, rfl⟩
  have HB4 : Hid (Below w.heap.size w w4) := Lib.hid (bTrans HB3.out hb4)
  have HB5 : Hid (Below w.heap.size w w5) := Lib.hid (by rw [← hw5]; exact bTrans HB4.out (bAlloc _ _))
  have HC5 : Hid (Bk c 30 #[.slice A 2 cap] w5) := Lib.hid (by rw [← hw5, ← hc]; exact Bk.new _ _ _)
  have HS5 : Hid (SlF w5 A [exA, exB]) := Lib.hid (by rw [← hw5]; exact hs4.below (bAlloc _ _))
  have HCW : Hid (w.heap.size ≤ c) := Lib.hid (by rw [← hc]; exact HB4.out.size)
  have HE5 := Lib.hid (And.intro hc hw5)
  have HA5 : Hid (Bk b1 26 (FA exA) w5) := Lib.hid (by
    have h2 : Bk b1 26 (FA exA) w2 := HM.out.1
    have h3 : Bk b1 26 (FA exA) w3 := by rw [← HW3.out]; exact h2.grows (.of_alloc _ _)
    have h4 : Bk b1 26 (FA exA) w4 := (hb4.block b1 h3.lt).trans h3
    rw [← hw5]; exact h4.grows (.of_alloc _ _))
  clear hb4 hs4 hc hw5 A0 A1 A2 A3 A4 A5 A6 A7 B0 B1 B2 B3 B4 B5 B6 B7
  have HADD : Hid (Calls Tryz.prog 17 #[.agg #[.slice A 2 cap], .agg #[.int .u32 0, .int .u32 0, .int .i64 18, .int .i64 0, .int .i64 0, .string ⟨#[]⟩, .int .i64 1, .string ⟨#[]⟩]] w5 fun e w' => (∃ A cap, e = .returned (.tuple #[.agg #[.slice A 3 cap], .int .i64 0]) ∧ 3 ≤ cap ∧ SlF w' A [exA, exB, canF 1]) ∧ Below w5.heap.size w5 w') := Lib.hid (by
    have h := st_Add [exA, exB] A cap (canF 1) w5 (by decide) hcap HS5.out fitC (HT.out.below HB5.out)
    unfold addR at h
    rw [exAdd] at h
    exact h)
  go_upto_region 4 with fail
  rw [HE5.out.1, HE5.out.2]
  have C5 : w5.cell? ⟨c, 0, none⟩ = some (.slice A 2 cap) := HC5.out.cell 0
  go_wp2_with fail
  refine HADD.out.mono ?_
  rintro e w6 ⟨⟨A', cap', rfl, hcap', hs6⟩, hb6⟩
  have HC6 : Hid (Bk c 30 #[.slice A 2 cap] w6) := Lib.hid ((hb6.block c HC5.out.lt).trans HC5.out)
  have C6 : w6.cell? ⟨c, 0, none⟩ = some (.slice A 2 cap) := HC6.out.cell 0
  have D6 : w6.frozen? ⟨c, 0, none⟩ = false := HC6.out.frozen 0
  have HB6 : Hid (Below w.heap.size w w6) := Lib.hid (bTrans HB5.out hb6)
  have HA6 : Hid (Bk b1 26 (FA exA) w6) := Lib.hid ((hb6.block b1 HA5.out.lt).trans HA5.out)
  have HS6 := Lib.hid hs6
  clear hs6 hb6 C5
  go_upto_region 5 with fail
  obtain ⟨w7, hw7⟩ : ∃ x, w6.setCell ⟨c, 0, none⟩ (.slice A' 3 cap') = x := ⟨_, rfl⟩
  rw [hw7]
  have HC7 : Hid (Bk c 30 #[.slice A' 3 cap'] w7) := Lib.hid (by rw [← hw7]; exact HC6.out.set_ 0 _)
  have HS7 : Hid (SlF w7 A' [exA, exB, canF 1]) := Lib.hid (by rw [← hw7]; exact HS6.out.keepRe HC6.out _)
  have HB7 : Hid (Below w.heap.size w w7) := Lib.hid (by rw [← hw7]; exact HB6.out.setCell (p := ⟨c, 0, none⟩) HCW.out _)
  have HA7 : Hid (Bk b1 26 (FA exA) w7) := Lib.hid (by rw [← hw7]; exact (heap_setCell_other w6 ⟨c, 0, none⟩ b1 _ (HA6.out.ne_ HC6.out (by decide))).trans HA6.out)
  have HAT2 : Hid (∀ W, Calls Tryz.prog 19 #[.agg #[.slice A' 3 cap'], .int .i64 2] W fun e w' => e = .returned (.agg #[.slice A' 2 2]) ∧ Below W.heap.size W w') := Lib.hid fun W => st_At [exA, exB, canF 1] A' cap' 2 W (by decide) hcap'
  have HAT3 : Hid (∀ W, Calls Tryz.prog 19 #[.agg #[.slice A' 3 cap'], .int .i64 3] W fun e w' => e = .returned (.agg #[.slice A' 3 3]) ∧ Below W.heap.size W w') := Lib.hid fun W => st_At [exA, exB, canF 1] A' cap' 3 W (by decide) hcap'
  have HLEN : Hid (∀ W, Calls Tryz.prog 18 #[.agg #[.slice A' 3 cap']] W fun e w' => e = .returned (.int .i64 3) ∧ Below W.heap.size W w') := Lib.hid fun W => st_Len A' 3 cap' W
  have fit2 : ∀ f ∈ [exA, exB], Fit f := fun f hf => by
    rcases List.mem_cons.1 hf with rfl | hf
    · exact fitA
    · rw [List.mem_singleton.1 hf]; exact fitB
  have fit3 : ∀ f ∈ [exA, exB, canF 1], Fit f := fun f hf => by
    rcases List.mem_cons.1 hf with rfl | hf
    · exact fitA
    · rcases List.mem_cons.1 hf with rfl | hf
      · exact fitB
      · rw [List.mem_singleton.1 hf]; exact fitC
  have HCH : Hid (∀ W, Below w7.heap.size w7 W → Calls Tryz.prog 25 #[.agg #[.slice A' 2 2], .agg #[.slice A' 3 3]] W fun e w' => (∃ cb co cp, e = .returned (.slice (some ⟨cb, co, none⟩) 1 cp) ∧ cb < w'.heap.size ∧ ∀ j u, (encK (1, exA))[j]? = some u → w'.cell? ⟨cb, co + j, none⟩ = some u) ∧ Below W.heap.size W w') := Lib.hid fun W hW => by
    refine (st_Changed [exA, exB] [exA, exB, canF 1] A' A' 2 3 W (by decide) (by decide) ((HS7.out.take_ 2).below hW) (HS7.out.below hW) fit2 fit3 (.inl (by rw [exCh]; exact Nat.le_refl _))).mono ?_
    rintro e w' ⟨⟨C, cp, he, _, hs⟩, hb⟩
    rw [exCh2] at he hs
    obtain ⟨cb, co, rfl, hlt, hcell⟩ := hs (by simp)
    exact ⟨⟨cb, co, cp, he, hlt, fun j u hu => by have := hcell 0 (1, exA) rfl j u hu; simpa using this⟩, hb⟩
  have HF2 : Hid (∀ W, Below w7.heap.size w7 W → Calls Tryz.prog 21 #[.agg #[.slice A' 2 2], .int .u32 1, .int .i64 1] W fun e w' => (∃ C cp, e = .returned (.slice C 1 cp)) ∧ Below W.heap.size W w') := Lib.hid fun W hW => by
    refine (vi_Facts [exA, exB] A' 2 1 1 W (by decide) ((HS7.out.take_ 2).below hW)).mono ?_
    rintro e w' ⟨⟨v, he, ho⟩, hb⟩
    obtain ⟨C, cp, rfl, _, _⟩ := ho.sl
    rw [show chosen (ofPK 1 1) [exA, exB] [exA, exB].length = [(1, exA)] from exF2] at he
    exact ⟨⟨C, cp, he⟩, hb⟩
  have HF3 : Hid (∀ W, Below w7.heap.size w7 W → Calls Tryz.prog 21 #[.agg #[.slice A' 3 3], .int .u32 1, .int .i64 1] W fun e w' => (∃ C cp, e = .returned (.slice C 0 cp)) ∧ Below W.heap.size W w') := Lib.hid fun W hW => by
    refine (vi_Facts [exA, exB, canF 1] A' 3 1 1 W (by decide) (HS7.out.below hW)).mono ?_
    rintro e w' ⟨⟨v, he, ho⟩, hb⟩
    obtain ⟨C, cp, rfl, _, _⟩ := ho.sl
    rw [show chosen (ofPK 1 1) [exA, exB, canF 1] [exA, exB, canF 1].length = [] from exF3] at he
    exact ⟨⟨C, cp, he⟩, hb⟩
  have HKP : Hid (∀ W, Below w7.heap.size w7 W → W.cell? ⟨c, 0, none⟩ = some (.slice A' 3 cap')) := Lib.hid fun W hW => bCell hW (HC7.out.cell 0)
  have C7 : w7.cell? ⟨c, 0, none⟩ = some (.slice A' 3 cap') := HC7.out.cell 0
  have HW : Hid (Below w7.heap.size w7 w7.drew) := Lib.hid (bDrew w7)
  clear hw7 C6 D6
  go_region_held3 (fun W => W.cell? ⟨c, 0, none⟩ = some (.slice A' 3 cap')) (first | exact HKP.out _ HW.out | go_keep) (first | (go_at_call 19; with_reducible refine (HAT2.out _).mono ?_; rintro e wn ⟨rfl, hbn⟩; replace HW := Lib.hid (bTrans HW.out hbn); clear hbn) | (go_at_call 19; with_reducible refine (HAT3.out _).mono ?_; rintro e wn ⟨rfl, hbn⟩; replace HW := Lib.hid (bTrans HW.out hbn); clear hbn) | (go_at_call 25; with_reducible refine (HCH.out _ HW.out).mono ?_; rintro e wn ⟨⟨cb, co, cp, rfl, hlt, hcell⟩, hbn⟩; replace HW := Lib.hid (bTrans HW.out hbn); clear hbn))
  have HB8 : Hid (Below w.heap.size w wn) := Lib.hid (bTrans HB7.out HW.out)
  have HK8 : Hid (Below w7.heap.size w7 wn) := Lib.hid HW.out
  have HA8 : Hid (Bk b1 26 (FA exA) wn) := Lib.hid ((HW.out.block b1 HA7.out.lt).trans HA7.out)
  have HCE := Lib.hid hcell
  have HLT := Lib.hid hlt
  clear hcell hlt HW
  have HKP8 : Hid (∀ W, Below wn.heap.size wn W → W.cell? ⟨c, 0, none⟩ = some (.slice A' 3 cap') ∧ (W.cell? ⟨b1, 0, none⟩ = some (.int .u32 0) ∧ W.cell? ⟨b1, 1, none⟩ = some (.int .u32 1) ∧ W.cell? ⟨b1, 2, none⟩ = some (.int .i64 1) ∧ W.cell? ⟨b1, 3, none⟩ = some (.int .i64 19723) ∧ W.cell? ⟨b1, 4, none⟩ = some (.int .i64 0) ∧ W.cell? ⟨b1, 5, none⟩ = some (.string ⟨#[]⟩) ∧ W.cell? ⟨b1, 6, none⟩ = some (.int .i64 1) ∧ W.cell? ⟨b1, 7, none⟩ = some (.string ⟨#[]⟩)) ∧
      W.cell? ⟨cb, co, none⟩ = some (.int .i64 1) ∧ W.cell? ⟨cb, co + 1, none⟩ = some (.int .u32 0) ∧ W.cell? ⟨cb, co + 2, none⟩ = some (.int .u32 1) ∧ W.cell? ⟨cb, co + 3, none⟩ = some (.int .i64 1) ∧ W.cell? ⟨cb, co + 4, none⟩ = some (.int .i64 19723) ∧ W.cell? ⟨cb, co + 5, none⟩ = some (.int .i64 0) ∧ W.cell? ⟨cb, co + 6, none⟩ = some (.string ⟨#[]⟩) ∧ W.cell? ⟨cb, co + 7, none⟩ = some (.int .i64 1) ∧ W.cell? ⟨cb, co + 8, none⟩ = some (.string ⟨#[]⟩)) := Lib.hid fun W hW => by
    have h1 := (bk8 HA8.out).below hW
    have h2 : ∀ j u, (encK (1, exA))[j]? = some u → W.cell? ⟨cb, co + j, none⟩ = some u := fun j u hu => bCell hW (HCE.out j u hu)
    exact ⟨bCell hW (HKP.out _ HK8.out), ⟨h1.c0, h1.c1, h1.c2, h1.c3, h1.c4, h1.c5, h1.c6, h1.c7⟩, h2 0 _ rfl, h2 1 _ rfl, h2 2 _ rfl, h2 3 _ rfl, h2 4 _ rfl, h2 5 _ rfl, h2 6 _ rfl, h2 7 _ rfl, h2 8 _ rfl⟩
  have HX : Hid (Below wn.heap.size wn wn.drew) := Lib.hid (bDrew wn)
  obtain ⟨C8, ⟨E0, E1, E2, E3, E4, E5, E6, E7⟩, G0, G1, G2, G3, G4, G5, G6, G7, G8⟩ := HKP8.out wn (Below.refl _ _)
  obtain ⟨w8, rfl⟩ : ∃ x, x = wn := ⟨_, rfl⟩
  go_wp2_with fail
  go_region_held3 (fun W => W.cell? ⟨c, 0, none⟩ = some (.slice A' 3 cap') ∧ (W.cell? ⟨b1, 0, none⟩ = some (.int .u32 0) ∧ W.cell? ⟨b1, 1, none⟩ = some (.int .u32 1) ∧ W.cell? ⟨b1, 2, none⟩ = some (.int .i64 1) ∧ W.cell? ⟨b1, 3, none⟩ = some (.int .i64 19723) ∧ W.cell? ⟨b1, 4, none⟩ = some (.int .i64 0) ∧ W.cell? ⟨b1, 5, none⟩ = some (.string ⟨#[]⟩) ∧ W.cell? ⟨b1, 6, none⟩ = some (.int .i64 1) ∧ W.cell? ⟨b1, 7, none⟩ = some (.string ⟨#[]⟩)) ∧
      W.cell? ⟨cb, co, none⟩ = some (.int .i64 1) ∧ W.cell? ⟨cb, co + 1, none⟩ = some (.int .u32 0) ∧ W.cell? ⟨cb, co + 2, none⟩ = some (.int .u32 1) ∧ W.cell? ⟨cb, co + 3, none⟩ = some (.int .i64 1) ∧ W.cell? ⟨cb, co + 4, none⟩ = some (.int .i64 19723) ∧ W.cell? ⟨cb, co + 5, none⟩ = some (.int .i64 0) ∧ W.cell? ⟨cb, co + 6, none⟩ = some (.string ⟨#[]⟩) ∧ W.cell? ⟨cb, co + 7, none⟩ = some (.int .i64 1) ∧ W.cell? ⟨cb, co + 8, none⟩ = some (.string ⟨#[]⟩)) (first | exact HKP8.out _ HX.out | go_keep) (first | (go_at_call 18; with_reducible refine (HLEN.out _).mono ?_; rintro e wn ⟨rfl, hbn⟩; replace HX := Lib.hid (bTrans HX.out hbn); clear hbn) | (go_at_call 19; with_reducible refine (HAT2.out _).mono ?_; rintro e wn ⟨rfl, hbn⟩; replace HX := Lib.hid (bTrans HX.out hbn); clear hbn) | (go_at_call 19; with_reducible refine (HAT3.out _).mono ?_; rintro e wn ⟨rfl, hbn⟩; replace HX := Lib.hid (bTrans HX.out hbn); clear hbn) | (go_at_call 21; with_reducible refine (HF2.out _ (bTrans HK8.out HX.out)).mono ?_; rintro e wn ⟨⟨D1, d1, rfl⟩, hbn⟩; replace HX := Lib.hid (bTrans HX.out hbn); clear hbn) | (go_at_call 21; with_reducible refine (HF3.out _ (bTrans HK8.out HX.out)).mono ?_; rintro e wn ⟨⟨D2, d2, rfl⟩, hbn⟩; replace HX := Lib.hid (bTrans HX.out hbn); clear hbn))
  have HB9 : Hid (Below w.heap.size w wn) := Lib.hid (bTrans HB8.out HX.out)
  clear HX
  go_wp2
  go_ret
  exact ⟨rfl, HB9.out⟩
end Go.Proofs.YtdkbbngedjiheaaGreatDoor
