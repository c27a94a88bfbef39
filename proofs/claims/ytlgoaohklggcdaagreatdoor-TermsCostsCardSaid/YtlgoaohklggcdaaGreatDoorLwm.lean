import Derived.Test.YtlgoaohklggcdaaGreatDoorLwl
/- law16.TermsCosts. -/
namespace Go.Proofs.YtlgoaohklggcdaaGreatDoor
open Go.RowKit Go.Sort

/-- What terms.Costs answers, and the document's. -/
def CostT (s : ByteArray) (w : World) (e : Ending) (w' : World) : Prop := (if weightsB (ls s) = true then ∃ A c, e = .returned (.tuple #[.slice A (costsL (ls s)).length c, .int .i64 0]) ∧ Sl encWt 2 w' w'.heap.size A (costsL (ls s)) else e = .returned (.tuple #[.slice none 0 0, .int .i64 3])) ∧ Below w.heap.size w w'
theorem tm_CostT (s : ByteArray) (w : World) (hs : s.size ≤ 4096) (hT : Tb w) : Calls Tryz.prog 24 #[.string s] w (CostT s w) := by
  have h := tm_Costs s w (by omega) hT
  rw [chk_cost hs] at h
  refine h.mono fun e w' ⟨h1, h2⟩ => ⟨?_, h2⟩
  cases hW : weightsB (ls s) with
  | true =>
    rw [hW, if_pos rfl, if_pos rfl] at h1
    rw [if_pos rfl]
    obtain ⟨A, c, e1, ho⟩ := h1
    obtain ⟨A', c', e2, _, h3⟩ := own_sl encWt_len ho
    injection e2 with e2 _ _
    subst e2
    exact ⟨A, c, e1, h3⟩
  | false =>
    rw [hW] at h1
    simp at h1 ⊢
    exact h1
theorem CostT.yes {s : ByteArray} {w w' : World} {e : Ending} (h : CostT s w e w') (hw : weightsB (ls s) = true) : ∃ A c, e = .returned (.tuple #[.slice A (costsL (ls s)).length c, .int .i64 0]) ∧ Sl encWt 2 w' w'.heap.size A (costsL (ls s)) ∧ Below w.heap.size w w' := by
  obtain ⟨h1, h2⟩ := h
  rw [if_pos hw] at h1
  obtain ⟨A, c, e1, h3⟩ := h1
  exact ⟨A, c, e1, h3, h2⟩
theorem CostT.no {s : ByteArray} {w w' : World} {e : Ending} (h : CostT s w e w') (hw : weightsB (ls s) = false) : e = .returned (.tuple #[.slice none 0 0, .int .i64 3]) ∧ Below w.heap.size w w' := by
  obtain ⟨h1, h2⟩ := h
  rw [hw] at h1
  simp at h1
  exact ⟨h1, h2⟩
theorem CostR.to_yes {s : ByteArray} {w w' : World} {e : Ending} (h : CostR s w e w') (hw : weightsB (ls s) = true) : ∃ A c, e = .returned (.tuple #[.slice A (costsL (ls s)).length c, .bool true]) ∧ Sl encWt 2 w' w'.heap.size A (costsL (ls s)) ∧ Below w.heap.size w w' := by
  obtain ⟨h1, h2⟩ := h
  rw [if_pos hw] at h1
  obtain ⟨A, c, e1, h3⟩ := h1
  exact ⟨A, c, e1, h3, h2⟩
theorem CostR.to_no {s : ByteArray} {w w' : World} {e : Ending} (h : CostR s w e w') (hw : weightsB (ls s) = false) : e = .returned (.tuple #[.slice none 0 0, .bool false]) ∧ Below w.heap.size w w' := by
  obtain ⟨h1, h2⟩ := h
  rw [hw] at h1
  simp at h1
  exact ⟨h1, h2⟩
theorem costs_64 {l : List UInt8} (h : weightsB l = true) : (costsL l).length ≤ 64 := by
  unfold weightsB at h
  unfold costsL
  rw [List.length_map]
  simp at h
  omega
set_option maxHeartbeats 4000000 in
theorem run_neWt (n : ByteArray) (m : Int) (w : World) : (binOp .neq 68 (.agg #[.string n, .int .i64 m]) (.agg #[.string n, .int .i64 m])).run Tryz.prog w = .ok (.bool false) w := by
  go_simp
set_option maxHeartbeats 4000000 in
set_option maxRecDepth 100000 in
theorem lw_TermsCosts (s : ByteArray) (w : World) (hT : Tb w) (hC : Tab w) :
    Calls Tryz.prog 7 #[.string s] w fun e w' => e = .returned (.bool true) ∧ Below w.heap.size w w' := by
  have HAW : Hid (∀ W, Below w.heap.size w W → Calls Tryz.prog 16 #[] W fun e w' => e = .returned (.bool true) ∧ Below W.heap.size W w') := Lib.hid fun W hW => la_awake16 W (hT.below hW) (tabBel hC hW)
  by_cases h600 : (600 : Int) < (s.size : Int)
  · clear hT hC
    go_enter Tryz.func7, Tryz.ntmps7
    go_wp2_with fail
    refine (HAW.out _ (Below.refl _ _)).mono ?_
    rintro e w3 ⟨rfl, hb3⟩
    have HF := Lib.hid hb3
    clear hb3
    go_wp2
    go_ret
    exact ⟨rfl, HF.out⟩
  have HCT : Hid (Calls Tryz.prog 24 #[.string s] w (CostT s w)) := Lib.hid (tm_CostT s w (by omega) hT)
  have HCR : Hid (∀ W, Calls Tryz.prog 25 #[.string s] W (CostR s W)) := Lib.hid fun W => r16_Costs s W (by omega)
  clear hT hC
  cases hW : weightsB (ls s) with
  | false =>
    have HW := Lib.hid hW
    clear hW
    go_enter Tryz.func7, Tryz.ntmps7
    go_wp2_with fail
    refine HCT.out.mono ?_
    rintro e w3 h
    obtain ⟨rfl, hb3⟩ := h.no HW.out
    have HB3 := Lib.hid hb3
    clear hb3 h
    go_wp2_with fail
    refine (HCR.out _).mono ?_
    rintro e w4 h
    obtain ⟨rfl, hb4⟩ := h.to_no HW.out
    have HB4 := Lib.hid (bTrans HB3.out hb4)
    clear hb4 h HCT HCR
    go_wp2
    go_loopw [7] (fun iv wr => iv = .int .i64 0 ∧ wr = w4) (fun _ _ => 0)
    case atStart => exact ⟨rfl, rfl⟩
    case round =>
      obtain ⟨rfl, hww⟩ := hrel
      subst hww
      go_wp2_with fail
      refine (HAW.out _ HB4.out).mono ?_
      rintro e w5 ⟨rfl, hb5⟩
      have HF := Lib.hid (bTrans HB4.out hb5)
      clear hb5
      go_wp2
      go_ret
      exact ⟨rfl, HF.out⟩
  | true =>
    have HW := Lib.hid hW
    have hLl := costs_64 hW
    clear hW
    obtain ⟨L, hL⟩ : ∃ L, costsL (ls s) = L := ⟨_, rfl⟩
    rw [hL] at hLl
    have HL := Lib.hid hL
    clear hL
    go_enter Tryz.func7, Tryz.ntmps7
    go_wp2_with fail
    refine HCT.out.mono ?_
    rintro e w3 h
    obtain ⟨A1, c1, rfl, hs3, hb3⟩ := h.yes HW.out
    rw [HL.out] at hs3 ⊢
    have HB3 := Lib.hid hb3
    have HS3 := Lib.hid hs3
    clear hb3 h hs3
    go_wp2_with fail
    refine (HCR.out _).mono ?_
    rintro e w4 h
    obtain ⟨A2, c2, rfl, hs4, hb4⟩ := h.to_yes HW.out
    rw [HL.out] at hs4 ⊢
    have HB4 := Lib.hid (bTrans HB3.out hb4)
    have HS4 := Lib.hid hs4
    have HS5 := Lib.hid (sl_bel HS3.out hb4)
    clear hb4 h hs4 HCT HCR HS3 HB3 HL
    go_wp2
    go_loopw [7] (fun iv wr => ∃ k : Nat, k ≤ L.length ∧ iv = .int .i64 k ∧ Hid (Below w4.heap.size w4 wr)) (fun iv _ => L.length - (intOf iv).toNat)
    case atStart => exact ⟨0, Nat.zero_le _, rfl, Lib.hid (Below.refl _ _)⟩
    case round =>
      obtain ⟨k, hk, rfl, HB⟩ := hrel
      by_cases hlt : k < L.length
      · obtain ⟨⟨n, m⟩, hp⟩ : ∃ p, L[k]? = some p := ⟨_, List.getElem?_eq_getElem hlt⟩
        have hne : L ≠ [] := by intro h; simp [h] at hlt
        obtain ⟨g1, o1, rfl, _, hat1⟩ := HS5.out hne
        obtain ⟨g2, o2, rfl, _, hat2⟩ := HS4.out hne
        have A0 : wr.cell? ⟨g1, o1 + k * 2, none⟩ = some (.string n) := bCell HB.out (hat1 k _ hp 0 _ rfl)
        have A1 : wr.cell? ⟨g1, o1 + k * 2 + 1, none⟩ = some (.int .i64 m) := bCell HB.out (hat1 k _ hp 1 _ rfl)
        have B0 : wr.cell? ⟨g2, o2 + k * 2, none⟩ = some (.string n) := bCell HB.out (hat2 k _ hp 0 _ rfl)
        have B1 : wr.cell? ⟨g2, o2 + k * 2 + 1, none⟩ = some (.int .i64 m) := bCell HB.out (hat2 k _ hp 1 _ rfl)
        have hlt2 : (k : Int) < (L.length : Int) := by omega
        clear hp hat1 hat2
        have hq := run_neWt n m
        go_upto_region 10 with fail
        go_quiet (fail)
        rename_i nq
        have HB2 : Hid (Below w4.heap.size w4 (wr.drewN nq)) := Lib.hid (HB.out.trans ((bDrewN wr nq).mono HB.out.size))
        clear A0 A1 B0 B1 HB
        go_wp2
        exact ⟨⟨k + 1, by omega, by go_num, HB2⟩, by simp [intOf]; omega⟩
      · obtain rfl : k = L.length := by omega
        have HF2 := Lib.hid (bTrans HB4.out HB.out)
        clear hlt
        go_wp2_with fail
        refine (HAW.out _ HF2.out).mono ?_
        rintro e w5 ⟨rfl, hb5⟩
        have HF := Lib.hid (bTrans HF2.out hb5)
        clear hb5
        go_wp2
        go_ret
        exact ⟨rfl, HF.out⟩
end Go.Proofs.YtlgoaohklggcdaaGreatDoor
