import Derived.Test.YtlgoaohklggcdaaGreatDoorLwk
/- ref16.Costs. -/
namespace Go.Proofs.YtlgoaohklggcdaaGreatDoor
open Go.RowKit Go.Sort

theorem ls_ext (s : ByteArray) (a b : Nat) : ls (s.extract a b) = ((ls s).drop a).take (b - a) := Lib.extract_data s a b
theorem weightB_cut {z a p : List UInt8} (hc : cutB 58 z = (a, p, true)) : weightB z = (nameB a && digW p) := (weightB_at hc).trans (by rw [← tens_ok]; rfl)
/-- What ref16.Costs answers. -/
def CostR (s : ByteArray) (w : World) (e : Ending) (w' : World) : Prop := (if weightsB (ls s) = true then ∃ A c, e = .returned (.tuple #[.slice A (costsL (ls s)).length c, .bool true]) ∧ Sl encWt 2 w' w'.heap.size A (costsL (ls s)) else e = .returned (.tuple #[.slice none 0 0, .bool false])) ∧ Below w.heap.size w w'
theorem CostR.no {s : ByteArray} {w w' : World} {e : Ending} (h : weightsB (ls s) = false) (he : e = .returned (.tuple #[.slice none 0 0, .bool false])) (hb : Below w.heap.size w w') : CostR s w e w' := ⟨by rw [h, if_neg (by decide)]; exact he, hb⟩
theorem CostR.yes {s : ByteArray} {w w' : World} {e : Ending} {I : List (List UInt8)} {A : Option Addr} {c : Nat} (h : weightsB (ls s) = true ∧ costsL (ls s) = I.map costP) (he : e = .returned (.tuple #[.slice A I.length c, .bool true])) (hs : Sl encWt 2 w' w'.heap.size A (I.map costP)) (hb : Below w.heap.size w w') : CostR s w e w' := ⟨by rw [if_pos h.1, h.2]; exact ⟨A, c, by rw [List.length_map]; exact he, hs⟩, hb⟩
/-- Where the loop stands. -/
structure CsE (B : List UInt8) (i r : Nat) (I : List (List UInt8)) : Prop where
  on : i ≤ B.length → Cs B i r I
  off : i = B.length + 1 → pieces 32 B = I
  gd : Gd I
set_option maxHeartbeats 2000000 in
set_option maxRecDepth 100000 in
theorem r16_Costs (s : ByteArray) (w : World) (hs : s.size ≤ 600) : Calls Tryz.prog 25 #[.string s] w (CostR s w) := by
  have HLS := Lib.hid (ls_len s)
  go_enter Tryz.func25, Tryz.ntmps25
  go_wp2
  go_loopw [4, 5, 6] (fun ov rv iv wr => ∃ (i r : Nat) (I : List (List UInt8)), i ≤ s.size + 1 ∧ iv = .int .i64 i ∧ rv = .int .i64 r ∧ Hid (CsE (ls s) i r I) ∧ (∃ A c, ov = .slice A I.length c ∧ Hid (OwnWt w.heap.size (.slice A I.length c) (I.map costP) wr)) ∧ Hid (Below w.heap.size w wr)) (fun _ _ iv _ => s.size + 1 - (intOf iv).toNat)
  case atStart => exact ⟨0, 0, [], by omega, rfl, rfl, Lib.hid ⟨fun _ => Cs.start _, fun h => by simp at h, Gd.nil⟩, ⟨none, 0, rfl, Lib.hid (Own.nil _)⟩, Lib.hid (Below.refl _ _)⟩
  case round =>
    obtain ⟨i, r, I, hi, rfl, rfl, HC, ⟨Ao, co, rfl, HO⟩, HB⟩ := hrel
    obtain ⟨wo, hwo⟩ : ∃ x : World, x = wr := ⟨_, rfl⟩
    subst hwo
    by_cases hlt : i ≤ s.size
    · have HCS : Hid (Cs (ls s) i r I) := Lib.hid (HC.out.on (by rw [HLS.out]; exact hlt))
      have hri : r ≤ i := HCS.out.le
      have hIl : I.length ≤ 64 := HC.out.gd.le
      have hlt2 : (i : Int) ≤ (s.size : Int) := by omega
      by_cases hby : i < s.size ∧ (ls s)[i]? ≠ some 32
      · obtain ⟨hil, hb32⟩ := hby
        have hix := run_at (P := Tryz.prog) 9 Tryz.underlying9 s i hil
        obtain ⟨b, hb, hcb⟩ := byte_some hil
        have hbn : byteAt s i ≠ 32 := fun e => hb32 (by rw [hb]; congr 1; exact UInt8.toNat_inj.1 (by rw [hcb] at e; have : (32 : UInt8).toNat = 32 := rfl; omega))
        have hbq : (byteAt s i != 32) = true := bne_iff_ne.2 hbn
        have HCN : Hid (CsE (ls s) (i + 1) r I) := Lib.hid ⟨fun _ => HCS.out.byte hb (fun e => hb32 (by rw [hb, e])), fun h => by rw [HLS.out] at h; omega, HC.out.gd⟩
        have hil2 : (i : Int) < (s.size : Int) := by omega
        clear hb32 hb hcb
        generalize byteAt s i = c at *
        go_wp2
        exact ⟨⟨i + 1, r, I, by omega, by go_num, rfl, HCN, ⟨Ao, co, rfl, HO⟩, HB⟩, by simp [intOf]; omega⟩
      · have hend : i = (ls s).length ∨ (ls s)[i]? = some 32 := by
          rw [HLS.out]
          by_cases h : i = s.size
          · exact .inl h
          · refine .inr (Decidable.byContradiction fun h2 => hby ⟨by omega, h2⟩)
        obtain ⟨z, hz⟩ : ∃ z, ((ls s).drop r).take (i - r) = z := ⟨_, rfl⟩
        obtain ⟨W, hW⟩ : ∃ W, s.extract r i = W := ⟨_, rfl⟩
        have HWZ : Hid (ls W = z) := Lib.hid (by rw [← hW, ls_ext, hz])
        have HPC : Hid ((pieces 32 (ls s))[I.length]? = some z ∧ (pieces 32 (ls s)).take I.length = I) := Lib.hid (by rw [← hz]; exact HCS.out.piece hend)
        have HNX : Hid (Gd (I ++ [z]) → CsE (ls s) (i + 1) (i + 1) (I ++ [z])) := Lib.hid fun hg => by
          refine ⟨fun h => ?_, fun h => ?_, hg⟩
          · rw [← hz]
            exact HCS.out.cut (by
              rcases hend with h1 | h1
              · omega
              · exact h1)
          · have h1 : i = (ls s).length := by omega
            have h2 := HCS.out
            rw [h1] at h2
            rw [← hz, h1]
            exact h2.fin
        have HGD := Lib.hid HC.out.gd
        have hWs : W.size ≤ 600 := by
          have h1 := ls_len W
          rw [HWZ.out, ← hz, List.length_take, List.length_drop, HLS.out] at h1
          omega
        have hgo : (i : Int) = (s.size : Int) ∨ ((i : Int) < (s.size : Int) ∧ (Instr.index 9 (.string s) (.int .i64 i)).run Tryz.prog wo = .ok (.int .u8 32) wo) := by
          rcases hend with h | h
          · left; rw [HLS.out] at h; omega
          · right
            have hil : i < s.size := by have := (List.getElem?_eq_some_iff.1 h).1; rw [HLS.out] at this; exact this
            obtain ⟨b, hb, hcb⟩ := byte_some hil
            rw [h] at hb
            injection hb with hb
            have h2 := run_at (P := Tryz.prog) 9 Tryz.underlying9 s i hil wo
            rw [hcb, ← hb] at h2
            exact ⟨by omega, h2⟩
        have HWE := Lib.hid hW
        clear hz hW hend hby HC HCS
        go_upto_region 6 with fail
        go_cut [28] from 19 to 28 (fun q wx => q = .bool false ∧ wo = wx)
        case first =>
          rcases hgo with h | ⟨h, hix⟩
          · have h2 : ¬ (i : Int) < (s.size : Int) := by omega
            clear h
            go_wp2
            go_meet
            exact ⟨rfl, rfl⟩
          · go_wp2
            go_meet
            exact ⟨rfl, rfl⟩
        case rest =>
        obtain ⟨rfl, hww⟩ := hcut
        subst hww
        clear hgo
        go_upto_region 10 with fail
        rw [HWE.out]
        have HWL : Hid (z.length = W.size) := Lib.hid (by rw [← HWZ.out, ls_len])
        have HBAD : Hid (weightB z = false → weightsB (ls s) = false) := Lib.hid fun h => weights_bad1 HPC.out.1 h
        clear HWE
        go_loopw [8] (fun jv wq => ∃ j : Nat, j ≤ W.size ∧ jv = .int .i64 j ∧ Hid ((58 : UInt8) ∉ z.take j) ∧ wo = wq) (fun jv _ => W.size - (intOf jv).toNat)
        case atStart => exact ⟨0, Nat.zero_le _, rfl, Lib.hid (by simp), rfl⟩
        case round =>
          obtain ⟨j, hj, rfl, HN, hww⟩ := hrel
          subst hww
          by_cases hcl : j < W.size ∧ z[j]? ≠ some 58
          · obtain ⟨hjl, hb58⟩ := hcl
            have hix := run_at (P := Tryz.prog) 9 Tryz.underlying9 W j hjl
            obtain ⟨b, hb, hcb⟩ := byte_some hjl
            rw [HWZ.out] at hb
            have hbq : (byteAt W j != 58) = true := bne_iff_ne.2 (fun e => hb58 (by rw [hb]; congr 1; exact UInt8.toNat_inj.1 (by rw [hcb] at e; have : (58 : UInt8).toNat = 58 := rfl; omega)))
            have HN2 : Hid ((58 : UInt8) ∉ z.take (j + 1)) := Lib.hid (by
              rw [take_byte hb, List.mem_append, not_or]
              refine ⟨HN.out, fun h => hb58 ?_⟩
              rw [List.mem_singleton] at h
              rw [hb, ← h])
            have hjl2 : (j : Int) < (W.size : Int) := by omega
            clear hb58 hb hcb
            generalize byteAt W j = c at *
            go_wp2
            exact ⟨⟨j + 1, by omega, by go_num, HN2, by first | trivial | rfl⟩, by simp [intOf]; omega⟩
          · by_cases hjl : j < W.size
            · have h58 : z[j]? = some 58 := Decidable.byContradiction fun h => hcl ⟨hjl, h⟩
              have HCUT : Hid (cutB 58 z = (z.take j, z.drop (j + 1), true)) := Lib.hid ((cut_at HN.out).1 h58)
              have hix : (Instr.index 9 (.string W) (.int .i64 j)).run Tryz.prog wo = .ok (.int .u8 58) wo := by
                obtain ⟨b, hb, hcb⟩ := byte_some hjl
                rw [HWZ.out, h58] at hb
                injection hb with hb
                have h2 := run_at (P := Tryz.prog) 9 Tryz.underlying9 W j hjl wo
                rw [hcb, ← hb] at h2
                exact h2
              have hjl2 : (j : Int) < (W.size : Int) := by omega
              have hjn : (j : Int) ≠ (W.size : Int) := by omega
              have HWT : Hid (weightB z = (nameB (z.take j) && digW (z.drop (j + 1)))) := Lib.hid (weightB_cut HCUT.out)
              have HNE : Hid (ls (W.extract 0 j) = z.take j) := Lib.hid (by rw [ls_ext, HWZ.out]; simp)
              obtain ⟨nb, hnb⟩ : ∃ nb, nameB (z.take j) = nb := ⟨_, rfl⟩
              have HNM : Hid (Calls Tryz.prog 65 #[.string (W.extract 0 j)] wo fun e w' => e = .returned (.bool nb) ∧ wo = w') := Lib.hid (by
                have h := r16_name (W.extract 0 j) wo (by have := ls_len (W.extract 0 j); rw [HNE.out, List.length_take] at this; omega)
                rw [HNE.out, hnb] at h
                exact h)
              have HNB := Lib.hid hnb
              clear h58 hcl hnb HN
              go_wp2_with fail
              refine HNM.out.mono ?_
              rintro e wq ⟨rfl, rfl⟩
              clear HNM hix
              cases nb with
              | false =>
                have HF : Hid (weightsB (ls s) = false) := Lib.hid (HBAD.out (by rw [HWT.out, HNB.out]; rfl))
                go_wp2
                go_ret2
                exact CostR.no HF.out rfl HB.out
              | true =>
                go_upto_region 15 with fail
                obtain ⟨d, hd⟩ : ∃ d, z.drop (j + 1) = d := ⟨_, rfl⟩
                obtain ⟨D, hD⟩ : ∃ D, W.extract (j + 1) W.size = D := ⟨_, rfl⟩
                have HDL : Hid (ls D = d) := Lib.hid (by rw [← hD, ls_ext, HWZ.out, ← hd, List.take_of_length_le (by rw [List.length_drop, HWL.out]; exact Nat.le_refl _)])
                have hDs : D.size ≤ 600 := by
                  have h1 := ls_len D
                  rw [HDL.out, ← hd, List.length_drop, HWL.out] at h1
                  omega
                have HDZ : Hid (d.length = D.size) := Lib.hid (by rw [← HDL.out, ls_len])
                have HWT2 : Hid (weightB z = digW d) := Lib.hid (by rw [HWT.out, HNB.out, Bool.true_and, hd])
                have HBD : Hid (digW d = false → weightsB (ls s) = false) := Lib.hid fun h => HBAD.out (by rw [HWT2.out, h])
                have HDD := Lib.hid hd
                rw [hD]
                clear hd hD
                by_cases hd0 : D.size = 0
                · have HF : Hid (weightsB (ls s) = false) := Lib.hid (HBD.out (by unfold digW; rw [HDZ.out, hd0]; rfl))
                  have hd1 : (D.size : Int) < 1 := by omega
                  clear hd0
                  go_wp2
                  go_ret2
                  exact CostR.no HF.out rfl HB.out
                by_cases hd7 : 7 < D.size
                · have HF : Hid (weightsB (ls s) = false) := Lib.hid (HBD.out (by unfold digW; rw [HDZ.out, decide_eq_false (p := D.size ≤ 7) (by omega)]; simp))
                  have hd1 : ¬ (D.size : Int) < 1 := by omega
                  have hd2 : (7 : Int) < (D.size : Int) := by omega
                  clear hd0 hd7
                  go_wp2
                  go_ret2
                  exact CostR.no HF.out rfl HB.out
                have hd1 : ¬ (D.size : Int) < 1 := by omega
                have hd2 : ¬ (7 : Int) < (D.size : Int) := by omega
                have hix0 : (Instr.index 9 (.string D) (.int .i64 0)).run Tryz.prog wo = .ok (.int .u8 (byteAt D 0)) wo := run_at (P := Tryz.prog) 9 Tryz.underlying9 D 0 (by omega) wo
                obtain ⟨b0, hb0, hcb0⟩ := byte_some (s := D) (k := 0) (by omega)
                rw [HDL.out] at hb0
                have HB0 := Lib.hid hb0
                by_cases h48 : byteAt D 0 = 48
                · have HF : Hid (weightsB (ls s) = false) := Lib.hid (HBD.out (by
                    have e : b0 = 48 := UInt8.toNat_inj.1 (by rw [h48] at hcb0; have : (48 : UInt8).toNat = 48 := rfl; omega)
                    unfold digW
                    rw [show d.head? = some 48 by rw [List.head?_eq_getElem?, HB0.out, e]]
                    simp))
                  rw [h48] at hix0
                  clear hd0 hd7 h48 hcb0 hb0
                  go_wp2
                  go_ret2
                  exact CostR.no HF.out rfl HB.out
                have HHD : Hid (d.head? ≠ some 48) := Lib.hid (by
                  rw [List.head?_eq_getElem?, HB0.out]
                  intro e
                  injection e with e
                  exact h48 (by rw [hcb0, e]; rfl))
                have h48q : (byteAt D 0 == 48) = false := beq_eq_false_iff_ne.2 h48
                clear h48 hcb0 hb0 HB0
                generalize byteAt D 0 = c0 at *
                go_upto_region 19 with fail
                clear hix0 h48q
                go_loopw [10, 11] (fun nv kv wq => ∃ k m : Nat, k ≤ D.size ∧ kv = .int .i64 k ∧ nv = .int .i64 m ∧ m < 10 ^ k ∧ Hid ((d.take k).all digC = true ∧ numL 0 (d.take k) = m) ∧ wo = wq) (fun _ kv _ => D.size - (intOf kv).toNat)
                case atStart => exact ⟨0, 0, Nat.zero_le _, rfl, rfl, by simp, Lib.hid ⟨rfl, rfl⟩, by first | trivial | rfl⟩
                case round =>
                  obtain ⟨k, m, hk, rfl, rfl, hm, HM, hww⟩ := hrel
                  subst hww
                  by_cases hkl : k < D.size
                  · have hix := run_at (P := Tryz.prog) 9 Tryz.underlying9 D k hkl
                    obtain ⟨b, hb, hcb⟩ := byte_some hkl
                    rw [HDL.out] at hb
                    have HBY := Lib.hid hb
                    have hkl2 : (k : Int) < (D.size : Int) := by omega
                    have hbd := byteAt_bd D k
                    have hm6 : m < 1000000 := Nat.lt_of_lt_of_le hm (Nat.pow_le_pow_right (n := 10) (by decide) (show k ≤ 6 by omega))
                    by_cases hdg : digC b = true
                    · have hdb := of_decide_eq_true hdg
                      have HM2 : Hid ((d.take (k + 1)).all digC = true ∧ numL 0 (d.take (k + 1)) = 10 * m + (b.toNat - 48)) := Lib.hid ⟨by rw [take_byte hb, List.all_append, HM.out.1]; simp [hdg], by rw [numL_more hb, HM.out.2]⟩
                      have hmm : 10 * m + (b.toNat - 48) < 10 ^ (k + 1) := by
                        rw [Nat.pow_succ]
                        omega
                      obtain ⟨u, hu⟩ : ∃ u : Nat, b.toNat - 48 = u := ⟨_, rfl⟩
                      have hcu : byteAt D k = (u : Int) + 48 := by omega
                      have hu9 : u ≤ 9 := by omega
                      rw [hu] at HM2 hmm
                      have HMM := Lib.hid hmm
                      rw [hcu] at hix
                      clear hb hcb hdb hdg hu hcu hbd hm hmm
                      go_wp2
                      exact ⟨⟨k + 1, 10 * m + u, by omega, by go_num, by first | rfl | (congr 1; omega) | (simp; done) | go_num, HMM.out, HM2, by first | trivial | rfl⟩, by simp [intOf]; omega⟩
                    · have HF : Hid (weightsB (ls s) = false) := Lib.hid (HBD.out (by
                        unfold digW
                        have h : d.all digC = false := by
                          rw [← Bool.not_eq_true]
                          intro h
                          exact hdg (List.all_eq_true.1 h b (List.mem_of_getElem? hb))
                        rw [h]
                        simp))
                      have hnd : byteAt D k < 48 ∨ (48 ≤ byteAt D k ∧ 57 < byteAt D k) := by
                        have h : ¬ (48 ≤ b.toNat ∧ b.toNat ≤ 57) := fun h => hdg (decide_eq_true h)
                        omega
                      clear hb hcb hdg
                      generalize byteAt D k = c at *
                      rcases hnd with h | ⟨h1, h2⟩
                      · go_wp2
                        go_ret2
                        exact CostR.no HF.out rfl HB.out
                      · have h3 : ¬ c < 48 := by omega
                        go_wp2
                        go_ret2
                        exact CostR.no HF.out rfl HB.out
                  · obtain rfl : k = D.size := by omega
                    have HAL : Hid (d.all digC = true ∧ numL 0 d = m) := Lib.hid (by
                      have h := HM.out
                      rwa [List.take_of_length_le (by rw [HDZ.out]; exact Nat.le_refl _)] at h)
                    have hm7 : m < 10000000 := Nat.lt_of_lt_of_le hm (Nat.pow_le_pow_right (n := 10) (by decide) (show D.size ≤ 7 by omega))
                    have HCV : Hid (costV d = (m : Int)) := Lib.hid (by rw [costV_num HAL.out.1 (by rw [HDZ.out]; omega), HAL.out.2])
                    have HDW : Hid (digW d = decide (m ≤ 1000000)) := Lib.hid (by
                      unfold digW
                      rw [HDZ.out, HAL.out.1, HAL.out.2, decide_eq_true (p := 1 ≤ D.size) (by omega), decide_eq_true (p := D.size ≤ 7) (by omega)]
                      have h := HHD.out
                      simp [h])
                    have HCP : Hid (costP z = (W.extract 0 j, (m : Int))) := Lib.hid (by
                      unfold costP
                      rw [HCUT.out, HDD.out, HCV.out, ← HNE.out]
                      rfl)
                    have HWN : Hid (wName z = z.take j) := Lib.hid (by unfold wName; rw [HCUT.out])
                    clear hm HM hk
                    go_upto_region 25 with fail
                    go_loopw [12] (fun qv wq => ∃ q : Nat, q ≤ I.length ∧ qv = .int .i64 q ∧ Hid (z.take j ∉ (I.map wName).take q) ∧ Hid (Below wo.heap.size wo wq)) (fun qv _ => I.length - (intOf qv).toNat)
                    case atStart => exact ⟨0, Nat.zero_le _, rfl, Lib.hid (by simp), Lib.hid (Below.refl _ _)⟩
                    case round =>
                      obtain ⟨q, hq, rfl, HQ, HBQ⟩ := hrel
                      by_cases hql : q < I.length
                      · obtain ⟨y, hy⟩ : ∃ y, I[q]? = some y := ⟨_, List.getElem?_eq_getElem hql⟩
                        have hA : ∃ g, Ao = some ⟨g, 0, none⟩ ∧ wo.cell? ⟨g, q * 2, none⟩ = some (.string ⟨(wName y).toArray⟩) := by
                          have hne : I.map costP ≠ [] := by intro h; rw [List.map_eq_nil_iff] at h; rw [h] at hql; simp at hql
                          obtain ⟨g, cap, e, _, hr⟩ := Own.row encWt_len HO.out hne
                          injection e with e _ _
                          refine ⟨g, e, ?_⟩
                          have hx : (I.map costP)[q]? = some (costP y) := by rw [List.getElem?_map, hy]; rfl
                          exact hr.cell hx (j := 0) rfl
                        obtain ⟨g, rfl, hc0⟩ := hA
                        have C0 : wr.cell? ⟨g, q * 2, none⟩ = some (.string ⟨(wName y).toArray⟩) := bCell HBQ.out hc0
                        have hql2 : (q : Int) < (I.length : Int) := by omega
                        obtain ⟨eb, heb⟩ : ∃ eb, decide (wName y = z.take j) = eb := ⟨_, rfl⟩
                        have hsq : ((⟨(wName y).toArray⟩ : ByteArray).toList == (W.extract 0 j).toList) = eb := by
                          rw [beq_ls, ← heb]
                          have h1 : (W.extract 0 j).toList = z.take j := by rw [ByteArray.toList_eq]; exact HNE.out
                          rw [h1]
                          rfl
                        have HEB := Lib.hid heb
                        have HY := Lib.hid hy
                        clear hy hc0 heb
                        generalize (⟨(wName y).toArray⟩ : ByteArray) = xn at *
                        go_upto_region 27 with fail
                        go_quiet (fail)
                        rename_i nq
                        have HBn : Hid (Below wo.heap.size wo (wr.drewN nq)) := Lib.hid (HBQ.out.trans ((bDrewN wr nq).mono HBQ.out.size))
                        clear C0 HBQ
                        cases eb with
                        | true =>
                          have HF : Hid (weightsB (ls s) = false) := Lib.hid (weights_bad2 HPC.out.1 (by
                            rw [HPC.out.2, HWN.out, ← of_decide_eq_true HEB.out]
                            exact List.mem_map_of_mem (List.mem_of_getElem? HY.out)))
                          have HBF : Hid (Below w.heap.size w (wr.drewN nq)) := Lib.hid (bTrans HB.out HBn.out)
                          go_wp2
                          go_ret2
                          exact CostR.no HF.out rfl HBF.out
                        | false =>
                          have HQ2 : Hid (z.take j ∉ (I.map wName).take (q + 1)) := Lib.hid (by
                            have h1 : (I.map wName)[q]? = some (wName y) := by rw [List.getElem?_map, HY.out]; rfl
                            rw [List.take_add_one, h1, List.mem_append, not_or]
                            refine ⟨HQ.out, fun h => ?_⟩
                            rw [Option.toList_some, List.mem_singleton] at h
                            exact of_decide_eq_false HEB.out h.symm)
                          go_wp2
                          exact ⟨⟨q + 1, by omega, by go_num, HQ2, HBn⟩, by simp [intOf]; omega⟩
                      · obtain rfl : q = I.length := by omega
                        have HND : Hid (wName z ∉ I.map wName) := Lib.hid (by
                          have h := HQ.out
                          rw [List.take_of_length_le (by rw [List.length_map]; exact Nat.le_refl _)] at h
                          rw [HWN.out]
                          exact h)
                        have HOQ : Hid (OwnWt w.heap.size (.slice Ao I.length co) (I.map costP) wr) := Lib.hid (own_bel HO.out HBQ.out)
                        have HBw : Hid (Below w.heap.size w wr) := Lib.hid (bTrans HB.out HBQ.out)
                        have HSZ : Hid (w.heap.size ≤ wr.heap.size) := Lib.hid HBw.out.size
                        go_upto_region 29 with fail
                        have HNW : Hid (∀ jj u, (encWt (W.extract 0 j, (m : Int)))[jj]? = some u → (wr.alloc (.cells #[.string (W.extract 0 j), .int .i64 m] 68)).cell? ⟨wr.heap.size, jj, none⟩ = some u) := Lib.hid (newsWt (W.extract 0 j, (m : Int)) wr)
                        have hml : (I.map costP).length ≤ 64 := by rw [List.length_map]; exact hIl
                        go_wp2_with ((at_builtin; refine wpList_append_row encWt_len encWt_one rfl _ _ 62 rfl w.heap.size 68 _ 24 Tryz.underlying62 weightInfo rfl (by decide) _ (I.map costP) (W.extract 0 j, (m : Int)) rfl (HOQ.out.alloc _) wr.heap.size 1 rfl HNW.out (by omega) (by decide) (Nat.le_trans HSZ.out (Grows.of_alloc _ _).size) ?_))
                        intro v9 w9 hown9 hgr9
                        have HB9 : Hid (Below w.heap.size w w9) := Lib.hid (belowWt (bTrans HBw.out (bAlloc _ _)) (Nat.le_trans HSZ.out (Grows.of_alloc _ _).size) (HOQ.out.alloc _) hgr9)
                        have hown9' : OwnWt w.heap.size v9 ((I ++ [z]).map costP) w9 := by
                          rw [List.map_append, List.map_cons, List.map_nil, HCP.out]
                          exact hown9
                        obtain ⟨A9, c9, e9, _, _⟩ := own_sl encWt_len hown9'
                        rw [List.length_map, List.length_append, List.length_singleton] at e9
                        subst e9
                        have HO9 := Lib.hid hown9'
                        clear hown9 hown9' hgr9 hml
                        by_cases hm6 : (1000000 : Int) < (m : Int)
                        · have HF : Hid (weightsB (ls s) = false) := Lib.hid (HBD.out (by rw [HDW.out]; exact decide_eq_false (by omega)))
                          go_wp2
                          go_ret2
                          exact CostR.no HF.out rfl HB9.out
                        by_cases h64 : (64 : Int) < (I.length : Int) + 1
                        · have HF : Hid (weightsB (ls s) = false) := Lib.hid (bad_long HPC.out.1 (by omega))
                          go_wp2
                          go_ret2
                          exact CostR.no HF.out rfl HB9.out
                        have HG2 : Hid (CsE (ls s) (i + 1) (i + 1) (I ++ [z])) := Lib.hid (HNX.out (HGD.out.more (by rw [HWT2.out, HDW.out]; exact decide_eq_true (by omega)) HND.out (by omega)))
                        have HLN : Hid ((I ++ [z]).length = I.length + 1) := Lib.hid (by simp)
                        go_wp2
                        exact ⟨⟨i + 1, i + 1, I ++ [z], by omega, by go_num, by go_num, HG2, ⟨A9, c9, by rw [HLN.out], by rw [HLN.out]; exact HO9⟩, HB9⟩, by simp [intOf]; omega⟩
            · obtain rfl : j = W.size := by omega
              have HF : Hid (weightsB (ls s) = false) := Lib.hid (HBAD.out (by
                have h := (cut_at HN.out).2 HWL.out.symm
                rw [weightB_at h]
                rfl))
              have hjl3 : ¬ (W.size : Int) < (W.size : Int) := by omega
              clear hcl hjl
              go_wp2
              go_ret2
              exact CostR.no HF.out rfl HB.out
    · have hi1 : i = s.size + 1 := by omega
      have HF : Hid (weightsB (ls s) = true ∧ costsL (ls s) = I.map costP) := Lib.hid (HC.out.gd.fin (HC.out.off (by rw [HLS.out]; exact hi1)))
      have hlt3 : ¬ ((i : Int) ≤ (s.size : Int)) := by omega
      have HS1 : Hid (Sl encWt 2 wo wo.heap.size Ao (I.map costP)) := Lib.hid (by
        obtain ⟨A', c', e1, _, hs1⟩ := own_sl encWt_len HO.out
        injection e1 with e1 _ _
        rw [e1]
        exact hs1)
      clear hlt hi1 hi
      go_wp2
      go_ret2
      exact CostR.yes HF.out rfl HS1.out HB.out
end Go.Proofs.YtlgoaohklggcdaaGreatDoor
